/- Walks of functions of this translation, written by a program (wip/tools/xprint.py, out of the kit's print). -/
import Derived.Test.YthpkjkcfhipjhaaGreatDoorPRBx0
import Derived.Test.YthpkjkcfhipjhaaGreatDoorPRBx1
namespace Go.Proofs.YthpkjkcfhipjhaaGreatDoor.PRB
open Go.RowKit Go.Proofs.YthpkjkcfhipjhaaGreatDoorW.PrintWords Go.Proofs.YthpkjkcfhipjhaaGreatDoorW.PrintLast
set_option linter.unusedVariables false
set_option linter.unusedSimpArgs false

end Go.Proofs.YthpkjkcfhipjhaaGreatDoor.PRB
