/- lex.Name: how a name is written: the closure that finds what a bare name has not. -/
import Derived.Test.YtlaafpbhhnehgaaDoorL5
namespace Go.Proofs.YtlaafpbhhnehgaaDoor
set_option linter.unusedVariables false
set_option linter.unusedSimpArgs false
open Go.RowKit Go.Lib

/-- a letter that no bare name has -/
def odd2 (r : Nat) : Bool := !isInn ((r : Int) % 256) || (decide (65 ≤ (r : Int)) && decide ((r : Int) ≤ 90))

set_option maxRecDepth 100000 in
theorem odd_c (r : Nat) (w : World) (hr : r ≤ 1114111) : Calls Tryd.prog 27 #[.int .i32 (r : Int)] w fun e w' => e = .returned (.bool (odd2 r)) ∧ Below w.heap.size w w' := by
  go_enter Tryd.func27, Tryd.ntmps27
  go_wp2_with (go_at_call 28; refine (isInner_c ((r : Int) % 256) (by omega) (by omega) _).mono ?_; rintro e w' ⟨rfl, hb⟩)
  all_goals go_ret
  all_goals refine ⟨?_, (by repeat (first | (with_reducible exact Below.refl _ _) | (with_reducible refine below_al ?_ _) | (with_reducible refine below_drewN ?_ _) | (with_reducible refine Below.drew ?_) | (with_reducible refine below_via (by assumption) ?_) | (with_reducible refine below_sc ?_ ?_ _; · (first | (simp; done) | (simp; omega) | omega))))⟩
  all_goals (simp [odd2, *]; try omega)

end Go.Proofs.YtlaafpbhhnehgaaDoor
