/- The first look at row, in the shape that the printed walks ask. -/
import Derived.Test.YthpkjkcfhipjhaaGreatDoorR13
namespace Go.Proofs.YthpkjkcfhipjhaaGreatDoor
set_option linter.unusedVariables false
set_option linter.unusedSimpArgs false
open Go.RowKit

def xAwake2.f : Option Bool := some true
theorem xAwake2.calls (r : Bool) (w : World) (hT : RTab w) (h : xAwake2.f = some r) :
    Calls Tryz.prog 24 #[] w fun e w' => e = .returned (.bool r) ∧ Below w.heap.size w w' := by
  cases Option.some.inj h
  exact awake2_c w hT

end Go.Proofs.YthpkjkcfhipjhaaGreatDoor
