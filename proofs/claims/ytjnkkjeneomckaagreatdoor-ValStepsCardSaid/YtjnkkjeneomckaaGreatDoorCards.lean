/-
  DERIVED. GIVEN WITH THE SEED: THE CARDS: each row of YtjnkkjeneomckaaGreatDoorRows.lean that lists a variable, with what it lists TIED to the program's text (the seventh form; the later family's looks); each row that meets fmt, with fmt's text TOLD by the authors' own Lean function (tested against real Go, not proved from fmt's source: count such statements apart). THE CARD IS WHAT COUNTS. Prove the row's statement (the work); the ties are given (YtjnkkjeneomckaaGreatDoorTie.lean); close each card by the builder's one call (the guide's Derived/Test/ToyasCard.lean, 'card_holds'). Laid BY PROGRAM, IN A SANDBOX (cutbox-door.mjs). By AI agents, Wed Nov 11 2026. No macro, syntax, notation, axiom, sorry.
-/
import Derived.Test.YtjnkkjeneomckaaGreatDoorRows
import GoSem.ClaimSeven
namespace Go.Proofs.YtjnkkjeneomckaaGreatDoor
namespace Rows

/-- THE TIED CARD OF 'freshetlaw01.ValSteps'. -/
def valStepsCard : Claim7 := { stood := { row := valStepsRow, standIns := [], harness := (true, "8aa00541f1f2a422778be17c7e0baf60c23aa96959a8e6645e420008fcf6a5a4"), looks := true }, kinds := [], alts := [], laidByText := true, laidKinds := [.data, .data, .data], laidTests := true, laidLooks := .later }
def ValStepsCardSaid : Prop := Claim7.holds Tryz.pinned (.plain (OpenSpec.ofChange valStepsSpec)) valStepsCard

/-- THE SECOND FORM's CARD OF 'freshetlaw01.ValSteps'. -/
def valStepsUptoCard : Claim7 := { stood := { row := valStepsUptoRow, standIns := [], harness := (true, "8aa00541f1f2a422778be17c7e0baf60c23aa96959a8e6645e420008fcf6a5a4"), looks := true }, kinds := [], alts := [], laidByText := true, laidKinds := [.data, .data, .data], laidTests := true, laidLooks := .later }
def ValStepsUptoCardSaid : Prop := Claim7.holds Tryz.pinned (.plain (OpenSpec.upto valStepsSpec)) valStepsUptoCard
end Rows
end Go.Proofs.YtjnkkjeneomckaaGreatDoor
