/-
  DERIVED. GIVEN WITH THE SEED: THE CARDS: each row of YthpkjkcfhipjhaaGreatDoorRows.lean that lists a variable, with what it lists TIED to the program's text (the seventh form; the later family's looks); each row that meets fmt, with fmt's text TOLD by the authors' own Lean function (tested against real Go, not proved from fmt's source: count such statements apart). THE CARD IS WHAT COUNTS. Prove the row's statement (the work); the ties are given (YthpkjkcfhipjhaaGreatDoorTie.lean); close each card by the builder's one call (the guide's Derived/Test/ToyasCard.lean, 'card_holds'). Laid BY PROGRAM, IN A SANDBOX (cutbox-door.mjs). By AI agents, Wed Nov 11 2026. No macro, syntax, notation, axiom, sorry.
-/
import Derived.Test.YthpkjkcfhipjhaaGreatDoorRows
import GoSem.ClaimSeven
namespace Go.Proofs.YthpkjkcfhipjhaaGreatDoor
namespace Rows

/-- THE TIED CARD OF 'freshetlaw03.ZsetMakes'. -/
def zsetMakesCard : Claim7 := { stood := { row := zsetMakesRow, standIns := [], harness := (true, "b08632c7edddcd9b289661971a4057427f00dcdc6aff0ec27d9b9c06d4e0a56a"), looks := true }, kinds := [], alts := [], laidByText := true, laidKinds := [.data, .data, .data], laidTests := true, laidLooks := .later }
def ZsetMakesCardSaid : Prop := Claim7.holds Tryz.pinned (.plain (OpenSpec.ofChange zsetMakesSpec)) zsetMakesCard

/-- THE TIED CARD OF 'freshetlaw03.ZsetSums'. -/
def zsetSumsCard : Claim7 := { stood := { row := zsetSumsRow, standIns := [], harness := (true, "b08632c7edddcd9b289661971a4057427f00dcdc6aff0ec27d9b9c06d4e0a56a"), looks := true }, kinds := [], alts := [], laidByText := true, laidKinds := [.data, .data, .data], laidTests := true, laidLooks := .later }
def ZsetSumsCardSaid : Prop := Claim7.holds Tryz.pinned (.plain (OpenSpec.ofChange zsetSumsSpec)) zsetSumsCard

/-- THE TIED CARD OF 'freshetlaw02.RowForms'. -/
def rowFormsCard : Claim7 := { stood := { row := rowFormsRow, standIns := [], harness := (true, "b08632c7edddcd9b289661971a4057427f00dcdc6aff0ec27d9b9c06d4e0a56a"), looks := true }, kinds := [], alts := [], laidByText := true, laidKinds := [.data, .data, .data, .data, .pinned], laidTests := true, laidLooks := .later }
def RowFormsCardSaid : Prop := Claim7.holds Tryz.pinned (.plain (OpenSpec.ofChange rowFormsSpec)) rowFormsCard

/-- THE SECOND FORM's CARD OF 'freshetlaw03.ZsetMakes'. -/
def zsetMakesUptoCard : Claim7 := { stood := { row := zsetMakesUptoRow, standIns := [], harness := (true, "b08632c7edddcd9b289661971a4057427f00dcdc6aff0ec27d9b9c06d4e0a56a"), looks := true }, kinds := [], alts := [], laidByText := true, laidKinds := [.data, .data, .data], laidTests := true, laidLooks := .later }
def ZsetMakesUptoCardSaid : Prop := Claim7.holds Tryz.pinned (.plain (OpenSpec.upto zsetMakesSpec)) zsetMakesUptoCard

/-- THE SECOND FORM's CARD OF 'freshetlaw03.ZsetSums'. -/
def zsetSumsUptoCard : Claim7 := { stood := { row := zsetSumsUptoRow, standIns := [], harness := (true, "b08632c7edddcd9b289661971a4057427f00dcdc6aff0ec27d9b9c06d4e0a56a"), looks := true }, kinds := [], alts := [], laidByText := true, laidKinds := [.data, .data, .data], laidTests := true, laidLooks := .later }
def ZsetSumsUptoCardSaid : Prop := Claim7.holds Tryz.pinned (.plain (OpenSpec.upto zsetSumsSpec)) zsetSumsUptoCard

/-- THE SECOND FORM's CARD OF 'freshetlaw02.RowForms'. -/
def rowFormsUptoCard : Claim7 := { stood := { row := rowFormsUptoRow, standIns := [], harness := (true, "b08632c7edddcd9b289661971a4057427f00dcdc6aff0ec27d9b9c06d4e0a56a"), looks := true }, kinds := [], alts := [], laidByText := true, laidKinds := [.data, .data, .data, .data, .pinned], laidTests := true, laidLooks := .later }
def RowFormsUptoCardSaid : Prop := Claim7.holds Tryz.pinned (.plain (OpenSpec.upto rowFormsSpec)) rowFormsUptoCard
end Rows
end Go.Proofs.YthpkjkcfhipjhaaGreatDoor
