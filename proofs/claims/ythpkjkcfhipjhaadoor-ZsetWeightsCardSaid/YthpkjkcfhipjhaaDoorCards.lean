/-
  DERIVED. GIVEN WITH THE SEED: THE CARDS: each row of YthpkjkcfhipjhaaDoorRows.lean that lists a variable, with what it lists TIED to the program's text (the seventh form; the later family's looks); each row that meets fmt, with fmt's text TOLD by the authors' own Lean function (tested against real Go, not proved from fmt's source: count such statements apart). THE CARD IS WHAT COUNTS. Prove the row's statement (the work); the ties are given (YthpkjkcfhipjhaaDoorTie.lean); close each card by the builder's one call (the guide's Derived/Test/ToyasCard.lean, 'card_holds'). Laid BY PROGRAM, IN A SANDBOX (cutbox-door.mjs). By AI agents, Wed Nov 11 2026. No macro, syntax, notation, axiom, sorry.
-/
import Derived.Test.YthpkjkcfhipjhaaDoorRows
import GoSem.ClaimSeven
namespace Go.Proofs.YthpkjkcfhipjhaaDoor
namespace Rows

/-- THE TIED CARD OF 'freshetlaw03.ZsetGroup'. -/
def zsetGroupCard : Claim7 := { stood := { row := zsetGroupRow, standIns := [], harness := (true, "fd29eb1ecf34552f2fa5abcaa6e6ba226c4242a53477d9a1062ba3af17999cbd"), looks := true }, kinds := [], alts := [], laidByText := true, laidKinds := [.data, .data, .data], laidTests := true, laidLooks := .later }
def ZsetGroupCardSaid : Prop := Claim7.holds Tryd.pinned (.plain (OpenSpec.ofChange zsetGroupSpec)) zsetGroupCard

/-- THE TIED CARD OF 'freshetlaw03.ZsetWeights'. -/
def zsetWeightsCard : Claim7 := { stood := { row := zsetWeightsRow, standIns := [], harness := (true, "fd29eb1ecf34552f2fa5abcaa6e6ba226c4242a53477d9a1062ba3af17999cbd"), looks := true }, kinds := [], alts := [], laidByText := true, laidKinds := [.data, .data, .data], laidTests := true, laidLooks := .later }
def ZsetWeightsCardSaid : Prop := Claim7.holds Tryd.pinned (.plain (OpenSpec.ofChange zsetWeightsSpec)) zsetWeightsCard

/-- THE TIED CARD OF 'freshetlaw03.ZsetMemory'. -/
def zsetMemoryCard : Claim7 := { stood := { row := zsetMemoryRow, standIns := [], harness := (true, "fd29eb1ecf34552f2fa5abcaa6e6ba226c4242a53477d9a1062ba3af17999cbd"), looks := true }, kinds := [], alts := [], laidByText := true, laidKinds := [.data, .data, .data], laidTests := true, laidLooks := .later }
def ZsetMemoryCardSaid : Prop := Claim7.holds Tryd.pinned (.plain (OpenSpec.ofChange zsetMemorySpec)) zsetMemoryCard

/-- THE TIED CARD OF 'freshetlaw02.RowReads'. -/
def rowReadsCard : Claim7 := { stood := { row := rowReadsRow, standIns := [], harness := (true, "fd29eb1ecf34552f2fa5abcaa6e6ba226c4242a53477d9a1062ba3af17999cbd"), looks := true }, kinds := [], alts := [], laidByText := true, laidKinds := [.data, .data, .data, .data, .pinned], laidTests := true, laidLooks := .later }
def RowReadsCardSaid : Prop := Claim7.holds Tryd.pinned (.plain (OpenSpec.ofChange rowReadsSpec)) rowReadsCard

/-- THE TIED CARD OF 'freshetlaw02.RowBack'. -/
def rowBackCard : Claim7 := { stood := { row := rowBackRow, standIns := [], harness := (true, "fd29eb1ecf34552f2fa5abcaa6e6ba226c4242a53477d9a1062ba3af17999cbd"), looks := true }, kinds := [], alts := [], laidByText := true, laidKinds := [.data, .data, .data, .data, .pinned], laidTests := true, laidLooks := .later }
def RowBackCardSaid : Prop := Claim7.holds Tryd.pinned (.plain (OpenSpec.ofChange rowBackSpec)) rowBackCard

/-- THE TIED CARD OF 'freshetlaw02.RowOrders'. -/
def rowOrdersCard : Claim7 := { stood := { row := rowOrdersRow, standIns := [], harness := (true, "fd29eb1ecf34552f2fa5abcaa6e6ba226c4242a53477d9a1062ba3af17999cbd"), looks := true }, kinds := [], alts := [], laidByText := true, laidKinds := [.data, .data, .data, .data, .pinned], laidTests := true, laidLooks := .later }
def RowOrdersCardSaid : Prop := Claim7.holds Tryd.pinned (.plain (OpenSpec.ofChange rowOrdersSpec)) rowOrdersCard

/-- THE TIED CARD OF 'freshetlaw02.RowJoins'. -/
def rowJoinsCard : Claim7 := { stood := { row := rowJoinsRow, standIns := [], harness := (true, "fd29eb1ecf34552f2fa5abcaa6e6ba226c4242a53477d9a1062ba3af17999cbd"), looks := true }, kinds := [], alts := [], laidByText := true, laidKinds := [.data, .data, .data, .data, .pinned], laidTests := true, laidLooks := .later }
def RowJoinsCardSaid : Prop := Claim7.holds Tryd.pinned (.plain (OpenSpec.ofChange rowJoinsSpec)) rowJoinsCard

/-- THE SECOND FORM's CARD OF 'freshetlaw03.ZsetGroup'. -/
def zsetGroupUptoCard : Claim7 := { stood := { row := zsetGroupUptoRow, standIns := [], harness := (true, "fd29eb1ecf34552f2fa5abcaa6e6ba226c4242a53477d9a1062ba3af17999cbd"), looks := true }, kinds := [], alts := [], laidByText := true, laidKinds := [.data, .data, .data], laidTests := true, laidLooks := .later }
def ZsetGroupUptoCardSaid : Prop := Claim7.holds Tryd.pinned (.plain (OpenSpec.upto zsetGroupSpec)) zsetGroupUptoCard

/-- THE SECOND FORM's CARD OF 'freshetlaw03.ZsetWeights'. -/
def zsetWeightsUptoCard : Claim7 := { stood := { row := zsetWeightsUptoRow, standIns := [], harness := (true, "fd29eb1ecf34552f2fa5abcaa6e6ba226c4242a53477d9a1062ba3af17999cbd"), looks := true }, kinds := [], alts := [], laidByText := true, laidKinds := [.data, .data, .data], laidTests := true, laidLooks := .later }
def ZsetWeightsUptoCardSaid : Prop := Claim7.holds Tryd.pinned (.plain (OpenSpec.upto zsetWeightsSpec)) zsetWeightsUptoCard

/-- THE SECOND FORM's CARD OF 'freshetlaw03.ZsetMemory'. -/
def zsetMemoryUptoCard : Claim7 := { stood := { row := zsetMemoryUptoRow, standIns := [], harness := (true, "fd29eb1ecf34552f2fa5abcaa6e6ba226c4242a53477d9a1062ba3af17999cbd"), looks := true }, kinds := [], alts := [], laidByText := true, laidKinds := [.data, .data, .data], laidTests := true, laidLooks := .later }
def ZsetMemoryUptoCardSaid : Prop := Claim7.holds Tryd.pinned (.plain (OpenSpec.upto zsetMemorySpec)) zsetMemoryUptoCard

/-- THE SECOND FORM's CARD OF 'freshetlaw02.RowReads'. -/
def rowReadsUptoCard : Claim7 := { stood := { row := rowReadsUptoRow, standIns := [], harness := (true, "fd29eb1ecf34552f2fa5abcaa6e6ba226c4242a53477d9a1062ba3af17999cbd"), looks := true }, kinds := [], alts := [], laidByText := true, laidKinds := [.data, .data, .data, .data, .pinned], laidTests := true, laidLooks := .later }
def RowReadsUptoCardSaid : Prop := Claim7.holds Tryd.pinned (.plain (OpenSpec.upto rowReadsSpec)) rowReadsUptoCard

/-- THE SECOND FORM's CARD OF 'freshetlaw02.RowBack'. -/
def rowBackUptoCard : Claim7 := { stood := { row := rowBackUptoRow, standIns := [], harness := (true, "fd29eb1ecf34552f2fa5abcaa6e6ba226c4242a53477d9a1062ba3af17999cbd"), looks := true }, kinds := [], alts := [], laidByText := true, laidKinds := [.data, .data, .data, .data, .pinned], laidTests := true, laidLooks := .later }
def RowBackUptoCardSaid : Prop := Claim7.holds Tryd.pinned (.plain (OpenSpec.upto rowBackSpec)) rowBackUptoCard

/-- THE SECOND FORM's CARD OF 'freshetlaw02.RowOrders'. -/
def rowOrdersUptoCard : Claim7 := { stood := { row := rowOrdersUptoRow, standIns := [], harness := (true, "fd29eb1ecf34552f2fa5abcaa6e6ba226c4242a53477d9a1062ba3af17999cbd"), looks := true }, kinds := [], alts := [], laidByText := true, laidKinds := [.data, .data, .data, .data, .pinned], laidTests := true, laidLooks := .later }
def RowOrdersUptoCardSaid : Prop := Claim7.holds Tryd.pinned (.plain (OpenSpec.upto rowOrdersSpec)) rowOrdersUptoCard

/-- THE SECOND FORM's CARD OF 'freshetlaw02.RowJoins'. -/
def rowJoinsUptoCard : Claim7 := { stood := { row := rowJoinsUptoRow, standIns := [], harness := (true, "fd29eb1ecf34552f2fa5abcaa6e6ba226c4242a53477d9a1062ba3af17999cbd"), looks := true }, kinds := [], alts := [], laidByText := true, laidKinds := [.data, .data, .data, .data, .pinned], laidTests := true, laidLooks := .later }
def RowJoinsUptoCardSaid : Prop := Claim7.holds Tryd.pinned (.plain (OpenSpec.upto rowJoinsSpec)) rowJoinsUptoCard
end Rows
end Go.Proofs.YthpkjkcfhipjhaaDoor
