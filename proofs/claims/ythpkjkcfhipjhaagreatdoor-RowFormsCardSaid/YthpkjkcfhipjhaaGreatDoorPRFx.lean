/- Walks of functions of this translation, written by a program (wip/tools/xprint.py, out of the kit's print). -/
import Derived.Test.YthpkjkcfhipjhaaGreatDoorPRFx0
import Derived.Test.YthpkjkcfhipjhaaGreatDoorPRFx1
namespace Go.Proofs.YthpkjkcfhipjhaaGreatDoor.PRF
open Go.RowKit Go.Proofs.YthpkjkcfhipjhaaGreatDoorW.PrintWords Go.Proofs.YthpkjkcfhipjhaaGreatDoorW.PrintLast Go.Proofs.YthpkjkcfhipjhaaGreatDoor.PRW
set_option linter.unusedVariables false
set_option linter.unusedSimpArgs false

end Go.Proofs.YthpkjkcfhipjhaaGreatDoor.PRF
