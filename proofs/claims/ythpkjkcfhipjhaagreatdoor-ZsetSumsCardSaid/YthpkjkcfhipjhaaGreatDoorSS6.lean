/- a part of the claim: what the card leans on, out of the texts XRZ (put together by wip/tools/shake.py). -/
import Derived.Test.YthpkjkcfhipjhaaGreatDoorSS1
import Derived.Test.YthpkjkcfhipjhaaGreatDoorSS3
import Derived.Test.YthpkjkcfhipjhaaGreatDoorSS4
import Derived.Test.YthpkjkcfhipjhaaGreatDoorSS5
section
namespace Go.Proofs.YthpkjkcfhipjhaaGreatDoor
set_option linter.unusedVariables false
set_option linter.unusedSimpArgs false
open Go.RowKit Go.Proofs.YthpkjkcfhipjhaaGreatDoorW.PrintWords Go.Proofs.YthpkjkcfhipjhaaGreatDoorW.PrintLast
def xrCompare.f (k n f : Int) (t : ByteArray) (k' n' f' : Int) (t' : ByteArray) : Option Int:=if (0 ≤ f ∧ f < 18446744073709551616) ∧ (0 ≤ f' ∧ f' < 18446744073709551616) then some (cmpV k n f t k' n' f' t') else none
theorem xrCompare.calls (k n f : Int) (t : ByteArray) (k' n' f' : Int) (t' : ByteArray) (r : Int) (w : World) (h : xrCompare.f k n f t k' n' f' t' = some r) :
  Calls Tryz.prog 71 #[.agg #[.int .i64 k,.int .i64 n,.int .u64 f,.string t],.agg #[.int .i64 k',.int .i64 n',.int .u64 f',.string t']] w fun e w'=>e = .returned (.int .i64 r) ∧ Below w.heap.size w w':=by
 obtain ⟨⟨hn,hn'⟩,rfl⟩:=ext_of h
 exact rCompare_v k n f t k' n' f' t' w hn hn'
end Go.Proofs.YthpkjkcfhipjhaaGreatDoor
end
