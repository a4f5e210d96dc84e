/- Walks of functions of this translation, written by a program (wip/tools/xprint.py, out of the kit's print). -/
import Derived.Test.YtlaafpbhhnehgaaDoorPLXx0
namespace Go.Proofs.YtlaafpbhhnehgaaDoor.PLX
open Go.RowKit Go.Proofs.YtlaafpbhhnehgaaDoorW.PrintWords Go.Proofs.YtlaafpbhhnehgaaDoorW.PrintLast
set_option linter.unusedVariables false
set_option linter.unusedSimpArgs false

theorem eqA34 (d : Nat) (w : World) (x0 y0 : Int) (x1 y1 : ByteArray) (x2 y2 : Int) :
    (Op.equalIn (d + 2) 34 (.agg #[.int .i64 x0, .string x1, .int .i64 x2]) (.agg #[.int .i64 y0, .string y1, .int .i64 y2])).run Tryd.prog w = .ok (x0 == y0 && (x1.toList == y1.toList && (x2 == y2))) w := by
  refine eqA_of Tryd.underlying34 (by kernel_rfl) ?_
  refine eqf_cons (by rfl) (by go_simp; rfl) (by go_simp; rfl) (by go_simp) ?_
  refine eqf_cons (by rfl) (by go_simp; rfl) (by go_simp; rfl) (by go_simp) ?_
  exact eqf_last (by rfl) (by go_simp; rfl) (by go_simp; rfl) (by go_simp)
end Go.Proofs.YtlaafpbhhnehgaaDoor.PLX
