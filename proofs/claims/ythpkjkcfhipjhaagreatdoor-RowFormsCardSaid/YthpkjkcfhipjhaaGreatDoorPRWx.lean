/- Walks of functions of this translation, written by a program (wip/tools/xprint.py, out of the kit's print). -/
import Derived.Test.YthpkjkcfhipjhaaGreatDoorPRWx0
import Derived.Test.YthpkjkcfhipjhaaGreatDoorPRWx1
import Derived.Test.YthpkjkcfhipjhaaGreatDoorPRWx2
import Derived.Test.YthpkjkcfhipjhaaGreatDoorPRWx3
import Derived.Test.YthpkjkcfhipjhaaGreatDoorPRWx4
import Derived.Test.YthpkjkcfhipjhaaGreatDoorPRWx5
namespace Go.Proofs.YthpkjkcfhipjhaaGreatDoor.PRW
open Go.RowKit Go.Proofs.YthpkjkcfhipjhaaGreatDoorW.PrintWords Go.Proofs.YthpkjkcfhipjhaaGreatDoorW.PrintLast
set_option linter.unusedVariables false
set_option linter.unusedSimpArgs false

end Go.Proofs.YthpkjkcfhipjhaaGreatDoor.PRW
