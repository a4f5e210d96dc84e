/- Contracts of the document's Compare and Show of values, for the printed walks of rows. -/
import Derived.Test.YthpkjkcfhipjhaaGreatDoorXR
import Derived.Test.YthpkjkcfhipjhaaGreatDoorMB
import Derived.Test.YthpkjkcfhipjhaaGreatDoorVR4
namespace Go.Proofs.YthpkjkcfhipjhaaGreatDoor
set_option linter.unusedVariables false
set_option linter.unusedSimpArgs false
open Go.RowKit Go.Proofs.YthpkjkcfhipjhaaGreatDoorW.PrintWords Go.Proofs.YthpkjkcfhipjhaaGreatDoorW.PrintLast

def xrCompare.f (k n f : Int) (t : ByteArray) (k' n' f' : Int) (t' : ByteArray) : Option Int := if (0 ≤ f ∧ f < 18446744073709551616) ∧ (0 ≤ f' ∧ f' < 18446744073709551616) then some (cmpV k n f t k' n' f' t') else none
theorem xrCompare.calls (k n f : Int) (t : ByteArray) (k' n' f' : Int) (t' : ByteArray) (r : Int) (w : World) (h : xrCompare.f k n f t k' n' f' t' = some r) :
    Calls Tryz.prog 71 #[.agg #[.int .i64 k, .int .i64 n, .int .u64 f, .string t], .agg #[.int .i64 k', .int .i64 n', .int .u64 f', .string t']] w fun e w' => e = .returned (.int .i64 r) ∧ Below w.heap.size w w' := by
  obtain ⟨⟨hn, hn'⟩, rfl⟩ := ext_of h
  exact rCompare_v k n f t k' n' f' t' w hn hn'

def xrShow.f (k n f : Int) (t : ByteArray) : Option ByteArray := if (-9223372036854775808 ≤ n ∧ n ≤ 9223372036854775807) ∧ (0 ≤ f ∧ f < 18446744073709551616) then some ⟨(showL k n f t).toArray⟩ else none
theorem xrShow.calls (k n f : Int) (t : ByteArray) (r : ByteArray) (w : World) (h : xrShow.f k n f t = some r) :
    Calls Tryz.prog 52 #[.agg #[.int .i64 k, .int .i64 n, .int .u64 f, .string t]] w fun e w' => e = .returned (.string r) ∧ Below w.heap.size w w' := by
  obtain ⟨⟨hn, hf⟩, rfl⟩ := ext_of h
  obtain ⟨m, hm⟩ := (rShow_ev k n f t hn hf).rounds
  exact PRS.freshetref01_Show.calls m k n f t _ w hm

end Go.Proofs.YthpkjkcfhipjhaaGreatDoor
