/- Walks of functions of this translation, written by a program (wip/tools/xprint.py, out of the kit's print). -/
import Derived.Test.YthpkjkcfhipjhaaDoorPRWx0
import Derived.Test.YthpkjkcfhipjhaaDoorPRWx1
import Derived.Test.YthpkjkcfhipjhaaDoorPRWx2
import Derived.Test.YthpkjkcfhipjhaaDoorPRWx3
namespace Go.Proofs.YthpkjkcfhipjhaaDoor.PRW
open Go.RowKit Go.Proofs.YthpkjkcfhipjhaaDoorW.PrintWords Go.Proofs.YthpkjkcfhipjhaaDoorW.PrintLast
set_option linter.unusedVariables false
set_option linter.unusedSimpArgs false

end Go.Proofs.YthpkjkcfhipjhaaDoor.PRW
