/- Walks of functions of this translation, written by a program (wip/tools/xprint.py, out of the kit's print). -/
import Derived.Test.YtlaafpbhhnehgaaDoorPLXx0
import Derived.Test.YtlaafpbhhnehgaaDoorPLXx1
import Derived.Test.YtlaafpbhhnehgaaDoorPLXx2
import Derived.Test.YtlaafpbhhnehgaaDoorPLXx3
import Derived.Test.YtlaafpbhhnehgaaDoorPLXx4
namespace Go.Proofs.YtlaafpbhhnehgaaDoor.PLX
open Go.RowKit Go.Proofs.YtlaafpbhhnehgaaDoorW.PrintWords Go.Proofs.YtlaafpbhhnehgaaDoorW.PrintLast
set_option linter.unusedVariables false
set_option linter.unusedSimpArgs false

end Go.Proofs.YtlaafpbhhnehgaaDoor.PLX
