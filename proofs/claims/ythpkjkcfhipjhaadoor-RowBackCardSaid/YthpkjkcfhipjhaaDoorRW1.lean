/- The walk of 'RowBack'. -/
import Derived.Test.YthpkjkcfhipjhaaDoorRQ2
namespace Go.Proofs.YthpkjkcfhipjhaaDoor
set_option linter.unusedVariables false
set_option linter.unusedSimpArgs false
open Go.RowKit Go.Proofs.YthpkjkcfhipjhaaDoorW.PrintWords Go.Proofs.YthpkjkcfhipjhaaDoorW.PrintLast PRW PRK

theorem walkRowBack (w : World) (A0 : Option Addr) (c0 : Nat) (L0 : List S56) (hc : L0.length ≤ c0) (hr : Kd.C k56 w A0 L0.length L0) (hg : rngL L0 = true) (a1 : ByteArray) (h1 : a1.size ≤ 140737488351232) (a2 : Int) (h2 : I64 a2) (ht : RTab w) :
    Calls Tryd.prog 7 #[.slice A0 L0.length c0, .string a1, .int .i64 a2] w fun e w' => e = .returned (.bool true) ∧ Below w.heap.size w w' := by
  obtain ⟨k, hk⟩ := (back_ev L0 a1 a2 hg (by omega)).rounds
  exact freshetlaw02_RowBack.calls k A0 c0 L0 a1 a2 true w hr hc ht hk

end Go.Proofs.YthpkjkcfhipjhaaDoor
