/- awake answers true. -/
import Derived.Test.YtlaafpbhhnehgaaDoorPLXx2
namespace Go.Proofs.YtlaafpbhhnehgaaDoor
set_option linter.unusedVariables false
set_option linter.unusedSimpArgs false
open Go.RowKit Go.Proofs.YtlaafpbhhnehgaaDoorW.PrintWords Go.Proofs.YtlaafpbhhnehgaaDoorW.PrintLast PLX

set_option maxRecDepth 1000000 in
theorem awake_k : freshetlaw13_awake.f 30 = some true := by kernel_rfl
theorem awake_ev : Ev (fun k => freshetlaw13_awake.f k) true := Ev.of (fun k => freshetlaw13_awake.mono k) awake_k

end Go.Proofs.YtlaafpbhhnehgaaDoor
