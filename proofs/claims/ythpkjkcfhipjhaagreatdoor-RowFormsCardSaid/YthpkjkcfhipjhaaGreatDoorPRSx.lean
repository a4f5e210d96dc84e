/- Walks of functions of this translation, written by a program (wip/tools/xprint.py, out of the kit's print). -/
import Derived.Test.YthpkjkcfhipjhaaGreatDoorPRSx0
import Derived.Test.YthpkjkcfhipjhaaGreatDoorPRSx1
import Derived.Test.YthpkjkcfhipjhaaGreatDoorPRSx2
namespace Go.Proofs.YthpkjkcfhipjhaaGreatDoor.PRS
open Go.RowKit Go.Proofs.YthpkjkcfhipjhaaGreatDoorW.PrintWords Go.Proofs.YthpkjkcfhipjhaaGreatDoorW.PrintLast
set_option linter.unusedVariables false
set_option linter.unusedSimpArgs false

end Go.Proofs.YthpkjkcfhipjhaaGreatDoor.PRS
