/-
  DERIVED. GIVEN WITH THE SEED: THE CARDS: each row of YtakcjiinchghaaaGreatDoorRows.lean that lists a variable, with what it lists TIED to the program's text (the seventh form; the later family's looks); each row that meets fmt, with fmt's text TOLD by the authors' own Lean function (tested against real Go, not proved from fmt's source: count such statements apart). THE CARD IS WHAT COUNTS. Prove the row's statement (the work); the ties are given (YtakcjiinchghaaaGreatDoorTie.lean); close each card by the builder's one call (the guide's Derived/Test/ToyasCard.lean, 'card_holds'). Laid BY PROGRAM, IN A SANDBOX (cutbox-door.mjs). By AI agents, Wed Nov 11 2026. No macro, syntax, notation, axiom, sorry.
-/
import Derived.Test.YtakcjiinchghaaaGreatDoorRows
import GoSem.ClaimSeven
namespace Go.Proofs.YtakcjiinchghaaaGreatDoor
namespace Rows

/-- THE TIED CARD OF 'freshetlaw05.ExprEvals'. -/
def exprEvalsCard : Claim7 := { stood := { row := exprEvalsRow, standIns := [], harness := (true, "3ed676002f5c59fe59a1fd35287d2fb321e218f8872489ef6b542c8c6f27809a"), looks := true }, kinds := [], alts := [], laidByText := true, laidKinds := [.data, .data, .data], laidTests := true, laidLooks := .later }
def ExprEvalsCardSaid : Prop := Claim7.holds Tryz.pinned (.plain (OpenSpec.ofChange exprEvalsSpec)) exprEvalsCard

/-- THE TIED CARD OF 'freshetlaw05.ExprTypes'. -/
def exprTypesCard : Claim7 := { stood := { row := exprTypesRow, standIns := [], harness := (true, "3ed676002f5c59fe59a1fd35287d2fb321e218f8872489ef6b542c8c6f27809a"), looks := true }, kinds := [], alts := [], laidByText := true, laidKinds := [.data, .data, .data], laidTests := true, laidLooks := .later }
def ExprTypesCardSaid : Prop := Claim7.holds Tryz.pinned (.plain (OpenSpec.ofChange exprTypesSpec)) exprTypesCard

/-- THE TIED CARD OF 'freshetlaw05.ExprMoves'. -/
def exprMovesCard : Claim7 := { stood := { row := exprMovesRow, standIns := [], harness := (true, "3ed676002f5c59fe59a1fd35287d2fb321e218f8872489ef6b542c8c6f27809a"), looks := true }, kinds := [], alts := [], laidByText := true, laidKinds := [.data, .data, .data], laidTests := true, laidLooks := .later }
def ExprMovesCardSaid : Prop := Claim7.holds Tryz.pinned (.plain (OpenSpec.ofChange exprMovesSpec)) exprMovesCard

/-- THE TIED CARD OF 'freshetlaw05.ExprTyped'. -/
def exprTypedCard : Claim7 := { stood := { row := exprTypedRow, standIns := [], harness := (true, "3ed676002f5c59fe59a1fd35287d2fb321e218f8872489ef6b542c8c6f27809a"), looks := true }, kinds := [], alts := [], laidByText := true, laidKinds := [.data, .data, .data], laidTests := true, laidLooks := .later }
def ExprTypedCardSaid : Prop := Claim7.holds Tryz.pinned (.plain (OpenSpec.ofChange exprTypedSpec)) exprTypedCard

/-- THE TIED CARD OF 'freshetlaw05.ExprMoved'. -/
def exprMovedCard : Claim7 := { stood := { row := exprMovedRow, standIns := [], harness := (true, "3ed676002f5c59fe59a1fd35287d2fb321e218f8872489ef6b542c8c6f27809a"), looks := true }, kinds := [], alts := [], laidByText := true, laidKinds := [.data, .data, .data], laidTests := true, laidLooks := .later }
def ExprMovedCardSaid : Prop := Claim7.holds Tryz.pinned (.plain (OpenSpec.ofChange exprMovedSpec)) exprMovedCard

/-- THE TIED CARD OF 'freshetlaw05.ExprOnly'. -/
def exprOnlyCard : Claim7 := { stood := { row := exprOnlyRow, standIns := [], harness := (true, "3ed676002f5c59fe59a1fd35287d2fb321e218f8872489ef6b542c8c6f27809a"), looks := true }, kinds := [], alts := [], laidByText := true, laidKinds := [.data, .data, .data], laidTests := true, laidLooks := .later }
def ExprOnlyCardSaid : Prop := Claim7.holds Tryz.pinned (.plain (OpenSpec.ofChange exprOnlySpec)) exprOnlyCard

/-- THE TIED CARD OF 'freshetlaw05.ExprAll'. -/
def exprAllCard : Claim7 := { stood := { row := exprAllRow, standIns := [], harness := (true, "3ed676002f5c59fe59a1fd35287d2fb321e218f8872489ef6b542c8c6f27809a"), looks := true }, kinds := [], alts := [], laidByText := true, laidKinds := [.data, .data, .data], laidTests := true, laidLooks := .later }
def ExprAllCardSaid : Prop := Claim7.holds Tryz.pinned (.plain (OpenSpec.ofChange exprAllSpec)) exprAllCard

/-- THE SECOND FORM's CARD OF 'freshetlaw05.ExprEvals'. -/
def exprEvalsUptoCard : Claim7 := { stood := { row := exprEvalsUptoRow, standIns := [], harness := (true, "3ed676002f5c59fe59a1fd35287d2fb321e218f8872489ef6b542c8c6f27809a"), looks := true }, kinds := [], alts := [], laidByText := true, laidKinds := [.data, .data, .data], laidTests := true, laidLooks := .later }
def ExprEvalsUptoCardSaid : Prop := Claim7.holds Tryz.pinned (.plain (OpenSpec.upto exprEvalsSpec)) exprEvalsUptoCard

/-- THE SECOND FORM's CARD OF 'freshetlaw05.ExprTypes'. -/
def exprTypesUptoCard : Claim7 := { stood := { row := exprTypesUptoRow, standIns := [], harness := (true, "3ed676002f5c59fe59a1fd35287d2fb321e218f8872489ef6b542c8c6f27809a"), looks := true }, kinds := [], alts := [], laidByText := true, laidKinds := [.data, .data, .data], laidTests := true, laidLooks := .later }
def ExprTypesUptoCardSaid : Prop := Claim7.holds Tryz.pinned (.plain (OpenSpec.upto exprTypesSpec)) exprTypesUptoCard

/-- THE SECOND FORM's CARD OF 'freshetlaw05.ExprMoves'. -/
def exprMovesUptoCard : Claim7 := { stood := { row := exprMovesUptoRow, standIns := [], harness := (true, "3ed676002f5c59fe59a1fd35287d2fb321e218f8872489ef6b542c8c6f27809a"), looks := true }, kinds := [], alts := [], laidByText := true, laidKinds := [.data, .data, .data], laidTests := true, laidLooks := .later }
def ExprMovesUptoCardSaid : Prop := Claim7.holds Tryz.pinned (.plain (OpenSpec.upto exprMovesSpec)) exprMovesUptoCard

/-- THE SECOND FORM's CARD OF 'freshetlaw05.ExprTyped'. -/
def exprTypedUptoCard : Claim7 := { stood := { row := exprTypedUptoRow, standIns := [], harness := (true, "3ed676002f5c59fe59a1fd35287d2fb321e218f8872489ef6b542c8c6f27809a"), looks := true }, kinds := [], alts := [], laidByText := true, laidKinds := [.data, .data, .data], laidTests := true, laidLooks := .later }
def ExprTypedUptoCardSaid : Prop := Claim7.holds Tryz.pinned (.plain (OpenSpec.upto exprTypedSpec)) exprTypedUptoCard

/-- THE SECOND FORM's CARD OF 'freshetlaw05.ExprMoved'. -/
def exprMovedUptoCard : Claim7 := { stood := { row := exprMovedUptoRow, standIns := [], harness := (true, "3ed676002f5c59fe59a1fd35287d2fb321e218f8872489ef6b542c8c6f27809a"), looks := true }, kinds := [], alts := [], laidByText := true, laidKinds := [.data, .data, .data], laidTests := true, laidLooks := .later }
def ExprMovedUptoCardSaid : Prop := Claim7.holds Tryz.pinned (.plain (OpenSpec.upto exprMovedSpec)) exprMovedUptoCard

/-- THE SECOND FORM's CARD OF 'freshetlaw05.ExprOnly'. -/
def exprOnlyUptoCard : Claim7 := { stood := { row := exprOnlyUptoRow, standIns := [], harness := (true, "3ed676002f5c59fe59a1fd35287d2fb321e218f8872489ef6b542c8c6f27809a"), looks := true }, kinds := [], alts := [], laidByText := true, laidKinds := [.data, .data, .data], laidTests := true, laidLooks := .later }
def ExprOnlyUptoCardSaid : Prop := Claim7.holds Tryz.pinned (.plain (OpenSpec.upto exprOnlySpec)) exprOnlyUptoCard

/-- THE SECOND FORM's CARD OF 'freshetlaw05.ExprAll'. -/
def exprAllUptoCard : Claim7 := { stood := { row := exprAllUptoRow, standIns := [], harness := (true, "3ed676002f5c59fe59a1fd35287d2fb321e218f8872489ef6b542c8c6f27809a"), looks := true }, kinds := [], alts := [], laidByText := true, laidKinds := [.data, .data, .data], laidTests := true, laidLooks := .later }
def ExprAllUptoCardSaid : Prop := Claim7.holds Tryz.pinned (.plain (OpenSpec.upto exprAllSpec)) exprAllUptoCard
end Rows
end Go.Proofs.YtakcjiinchghaaaGreatDoor
