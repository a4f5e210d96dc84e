/- Walks of functions of this translation, written by a program (wip/tools/xprint.py, out of the kit's print). -/
import Derived.Test.YtlaafpbhhnehgaaDoorPLBx0
import Derived.Test.YtlaafpbhhnehgaaDoorPLBx1
namespace Go.Proofs.YtlaafpbhhnehgaaDoor.PLB
open Go.RowKit Go.Proofs.YtlaafpbhhnehgaaDoorW.PrintWords Go.Proofs.YtlaafpbhhnehgaaDoorW.PrintLast
set_option linter.unusedVariables false
set_option linter.unusedSimpArgs false

end Go.Proofs.YtlaafpbhhnehgaaDoor.PLB
