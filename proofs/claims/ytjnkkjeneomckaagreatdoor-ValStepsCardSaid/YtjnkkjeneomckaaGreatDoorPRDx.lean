/- Walks of functions of this translation, written by a program (wip/tools/xprint.py, out of the kit's print). -/
import Derived.Test.YtjnkkjeneomckaaGreatDoorPRDx0
import Derived.Test.YtjnkkjeneomckaaGreatDoorPRDx1
namespace Go.Proofs.YtjnkkjeneomckaaGreatDoor.PRD
open Go.RowKit Go.Proofs.YtjnkkjeneomckaaGreatDoorW.PrintWords Go.Proofs.YtjnkkjeneomckaaGreatDoorW.PrintLast
set_option linter.unusedVariables false
set_option linter.unusedSimpArgs false

end Go.Proofs.YtjnkkjeneomckaaGreatDoor.PRD
