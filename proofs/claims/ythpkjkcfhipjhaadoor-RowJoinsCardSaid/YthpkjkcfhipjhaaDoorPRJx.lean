/- Walks of functions of this translation, written by a program (wip/tools/xprint.py, out of the kit's print). -/
import Derived.Test.YthpkjkcfhipjhaaDoorPRJx0
import Derived.Test.YthpkjkcfhipjhaaDoorPRJx1
import Derived.Test.YthpkjkcfhipjhaaDoorPRJx2
namespace Go.Proofs.YthpkjkcfhipjhaaDoor.PRJ
open Go.RowKit Go.Proofs.YthpkjkcfhipjhaaDoorW.PrintWords Go.Proofs.YthpkjkcfhipjhaaDoorW.PrintLast Go.Proofs.YthpkjkcfhipjhaaDoor.PRW
set_option linter.unusedVariables false
set_option linter.unusedSimpArgs false

end Go.Proofs.YthpkjkcfhipjhaaDoor.PRJ
