/-
  DERIVED. GIVEN WITH THE SEED: THE CARDS: each row of YtjnkkjeneomckaaDoorRows.lean that lists a variable, with what it lists TIED to the program's text (the seventh form; the later family's looks); each row that meets fmt, with fmt's text TOLD by the authors' own Lean function (tested against real Go, not proved from fmt's source: count such statements apart). THE CARD IS WHAT COUNTS. Prove the row's statement (the work); the ties are given (YtjnkkjeneomckaaDoorTie.lean); close each card by the builder's one call (the guide's Derived/Test/ToyasCard.lean, 'card_holds'). Laid BY PROGRAM, IN A SANDBOX (cutbox-door.mjs). By AI agents, Wed Nov 11 2026. No macro, syntax, notation, axiom, sorry.
-/
import Derived.Test.YtjnkkjeneomckaaDoorRows
import GoSem.ClaimSeven
namespace Go.Proofs.YtjnkkjeneomckaaDoor
namespace Rows

/-- THE TIED CARD OF 'freshetlaw01.ValForms'. -/
def valFormsCard : Claim7 := { stood := { row := valFormsRow, standIns := [], harness := (true, "c5132c03825b3c7338f65cf65b798135cf3f5d5c8721a0785959b95acb577b31"), looks := true }, kinds := [], alts := [], laidByText := true, laidKinds := [.data, .data, .data], laidTests := true, laidLooks := .later }
def ValFormsCardSaid : Prop := Claim7.holds Tryd.pinned (.plain (OpenSpec.ofChange valFormsSpec)) valFormsCard

/-- THE TIED CARD OF 'freshetlaw01.ValOrders'. -/
def valOrdersCard : Claim7 := { stood := { row := valOrdersRow, standIns := [], harness := (true, "c5132c03825b3c7338f65cf65b798135cf3f5d5c8721a0785959b95acb577b31"), looks := true }, kinds := [], alts := [], laidByText := true, laidKinds := [.data, .data, .data], laidTests := true, laidLooks := .later }
def ValOrdersCardSaid : Prop := Claim7.holds Tryd.pinned (.plain (OpenSpec.ofChange valOrdersSpec)) valOrdersCard

/-- THE TIED CARD OF 'freshetlaw01.ValOrder'. -/
def valOrderCard : Claim7 := { stood := { row := valOrderRow, standIns := [], harness := (true, "c5132c03825b3c7338f65cf65b798135cf3f5d5c8721a0785959b95acb577b31"), looks := true }, kinds := [], alts := [], laidByText := true, laidKinds := [.data, .data, .data], laidTests := true, laidLooks := .later }
def ValOrderCardSaid : Prop := Claim7.holds Tryd.pinned (.plain (OpenSpec.ofChange valOrderSpec)) valOrderCard

/-- THE TIED CARD OF 'freshetlaw01.ValClosed'. -/
def valClosedCard : Claim7 := { stood := { row := valClosedRow, standIns := [], harness := (true, "c5132c03825b3c7338f65cf65b798135cf3f5d5c8721a0785959b95acb577b31"), looks := true }, kinds := [], alts := [], laidByText := true, laidKinds := [.data, .data, .data], laidTests := true, laidLooks := .later }
def ValClosedCardSaid : Prop := Claim7.holds Tryd.pinned (.plain (OpenSpec.ofChange valClosedSpec)) valClosedCard

/-- THE TIED CARD OF 'freshetlaw01.ValLogic'. -/
def valLogicCard : Claim7 := { stood := { row := valLogicRow, standIns := [], harness := (true, "c5132c03825b3c7338f65cf65b798135cf3f5d5c8721a0785959b95acb577b31"), looks := true }, kinds := [], alts := [], laidByText := true, laidKinds := [.data, .data, .data], laidTests := true, laidLooks := .later }
def ValLogicCardSaid : Prop := Claim7.holds Tryd.pinned (.plain (OpenSpec.ofChange valLogicSpec)) valLogicCard

/-- THE TIED CARD OF 'freshetlaw01.ValNumbers'. -/
def valNumbersCard : Claim7 := { stood := { row := valNumbersRow, standIns := [], harness := (true, "c5132c03825b3c7338f65cf65b798135cf3f5d5c8721a0785959b95acb577b31"), looks := true }, kinds := [], alts := [], laidByText := true, laidKinds := [.data, .data, .data], laidTests := true, laidLooks := .later }
def ValNumbersCardSaid : Prop := Claim7.holds Tryd.pinned (.plain (OpenSpec.ofChange valNumbersSpec)) valNumbersCard

/-- THE TIED CARD OF 'freshetlaw01.ValFloats'. -/
def valFloatsCard : Claim7 := { stood := { row := valFloatsRow, standIns := [], harness := (true, "c5132c03825b3c7338f65cf65b798135cf3f5d5c8721a0785959b95acb577b31"), looks := true }, kinds := [], alts := [], laidByText := true, laidKinds := [.data, .data, .data], laidTests := true, laidLooks := .later }
def ValFloatsCardSaid : Prop := Claim7.holds Tryd.pinned (.plain (OpenSpec.ofChange valFloatsSpec)) valFloatsCard

/-- THE SECOND FORM's CARD OF 'freshetlaw01.ValForms'. -/
def valFormsUptoCard : Claim7 := { stood := { row := valFormsUptoRow, standIns := [], harness := (true, "c5132c03825b3c7338f65cf65b798135cf3f5d5c8721a0785959b95acb577b31"), looks := true }, kinds := [], alts := [], laidByText := true, laidKinds := [.data, .data, .data], laidTests := true, laidLooks := .later }
def ValFormsUptoCardSaid : Prop := Claim7.holds Tryd.pinned (.plain (OpenSpec.upto valFormsSpec)) valFormsUptoCard

/-- THE SECOND FORM's CARD OF 'freshetlaw01.ValOrders'. -/
def valOrdersUptoCard : Claim7 := { stood := { row := valOrdersUptoRow, standIns := [], harness := (true, "c5132c03825b3c7338f65cf65b798135cf3f5d5c8721a0785959b95acb577b31"), looks := true }, kinds := [], alts := [], laidByText := true, laidKinds := [.data, .data, .data], laidTests := true, laidLooks := .later }
def ValOrdersUptoCardSaid : Prop := Claim7.holds Tryd.pinned (.plain (OpenSpec.upto valOrdersSpec)) valOrdersUptoCard

/-- THE SECOND FORM's CARD OF 'freshetlaw01.ValOrder'. -/
def valOrderUptoCard : Claim7 := { stood := { row := valOrderUptoRow, standIns := [], harness := (true, "c5132c03825b3c7338f65cf65b798135cf3f5d5c8721a0785959b95acb577b31"), looks := true }, kinds := [], alts := [], laidByText := true, laidKinds := [.data, .data, .data], laidTests := true, laidLooks := .later }
def ValOrderUptoCardSaid : Prop := Claim7.holds Tryd.pinned (.plain (OpenSpec.upto valOrderSpec)) valOrderUptoCard

/-- THE SECOND FORM's CARD OF 'freshetlaw01.ValClosed'. -/
def valClosedUptoCard : Claim7 := { stood := { row := valClosedUptoRow, standIns := [], harness := (true, "c5132c03825b3c7338f65cf65b798135cf3f5d5c8721a0785959b95acb577b31"), looks := true }, kinds := [], alts := [], laidByText := true, laidKinds := [.data, .data, .data], laidTests := true, laidLooks := .later }
def ValClosedUptoCardSaid : Prop := Claim7.holds Tryd.pinned (.plain (OpenSpec.upto valClosedSpec)) valClosedUptoCard

/-- THE SECOND FORM's CARD OF 'freshetlaw01.ValLogic'. -/
def valLogicUptoCard : Claim7 := { stood := { row := valLogicUptoRow, standIns := [], harness := (true, "c5132c03825b3c7338f65cf65b798135cf3f5d5c8721a0785959b95acb577b31"), looks := true }, kinds := [], alts := [], laidByText := true, laidKinds := [.data, .data, .data], laidTests := true, laidLooks := .later }
def ValLogicUptoCardSaid : Prop := Claim7.holds Tryd.pinned (.plain (OpenSpec.upto valLogicSpec)) valLogicUptoCard

/-- THE SECOND FORM's CARD OF 'freshetlaw01.ValNumbers'. -/
def valNumbersUptoCard : Claim7 := { stood := { row := valNumbersUptoRow, standIns := [], harness := (true, "c5132c03825b3c7338f65cf65b798135cf3f5d5c8721a0785959b95acb577b31"), looks := true }, kinds := [], alts := [], laidByText := true, laidKinds := [.data, .data, .data], laidTests := true, laidLooks := .later }
def ValNumbersUptoCardSaid : Prop := Claim7.holds Tryd.pinned (.plain (OpenSpec.upto valNumbersSpec)) valNumbersUptoCard

/-- THE SECOND FORM's CARD OF 'freshetlaw01.ValFloats'. -/
def valFloatsUptoCard : Claim7 := { stood := { row := valFloatsUptoRow, standIns := [], harness := (true, "c5132c03825b3c7338f65cf65b798135cf3f5d5c8721a0785959b95acb577b31"), looks := true }, kinds := [], alts := [], laidByText := true, laidKinds := [.data, .data, .data], laidTests := true, laidLooks := .later }
def ValFloatsUptoCardSaid : Prop := Claim7.holds Tryd.pinned (.plain (OpenSpec.upto valFloatsSpec)) valFloatsUptoCard
end Rows
end Go.Proofs.YtjnkkjeneomckaaDoor
