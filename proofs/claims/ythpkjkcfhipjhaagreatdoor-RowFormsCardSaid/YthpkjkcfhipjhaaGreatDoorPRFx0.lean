/- Walks of functions of this translation, written by a program (wip/tools/xprint.py, out of the kit's print). -/
import Derived.Test.YthpkjkcfhipjhaaGreatDoorProg
import Derived.Test.YthpkjkcfhipjhaaGreatDoorPRWx0
import Derived.Below
import Derived.Deep.Draws
import Derived.Deep.AppendLies
import Derived.Maps.AppendAt
import Derived.OwnWalk
import Derived.Laws.BytesArg
import Derived.Laws.MakeOwn
import Derived.Laws.OwnMore
import Derived.Deep.OwnRows
import Derived.Tactics
import Derived.Lib.ConvBytes
import Derived.Laws.Slices
import Derived.WalkKit
import Derived.KernelRfl
import Derived.RowKit3
import Derived.Deep.LoopGhost
import Derived.Deep.QuietTactic
import Derived.BigQuiet
import Derived.WideLaws
import Derived.Deep.DeepCutAuto
import Derived.Deep.CutBlock
import Derived.Deep.RegionHeld3
import Derived.Laws.Rows
import Derived.Lib.AppendStr
import Derived.ArgAppend
import Derived.Laws.IdiomCopy
import Derived.OrdersHeld
import Derived.Laws.BitsLemmas
import Derived.RowKit
import Derived.Test.YthpkjkcfhipjhaaGreatDoorWWords
import Derived.Test.YthpkjkcfhipjhaaGreatDoorWMini
import Derived.Test.YthpkjkcfhipjhaaGreatDoorWLast
import Derived.Test.YthpkjkcfhipjhaaGreatDoorWEqStruct
import Derived.Test.YthpkjkcfhipjhaaGreatDoorWRepsOne
import Derived.Test.YthpkjkcfhipjhaaGreatDoorWGuard
import Derived.Test.YthpkjkcfhipjhaaGreatDoorWCap
namespace Go.Proofs.YthpkjkcfhipjhaaGreatDoor.PRF
open Go.RowKit Go.Proofs.YthpkjkcfhipjhaaGreatDoorW.PrintWords Go.Proofs.YthpkjkcfhipjhaaGreatDoorW.PrintLast Go.Proofs.YthpkjkcfhipjhaaGreatDoor.PRW
set_option linter.unusedVariables false
set_option linter.unusedSimpArgs false



-- the values' own types
/-! #### struct type 64 -/
end Go.Proofs.YthpkjkcfhipjhaaGreatDoor.PRF
