/- The words of the language: what lex.words lays, and how lex.IsWord looks one up. -/
import Derived.Test.YtlaafpbhhnehgaaDoorL2
import Derived.Test.YtlaafpbhhnehgaaDoorShelf
namespace Go.Proofs.YtlaafpbhhnehgaaDoor
set_option linter.unusedVariables false
set_option linter.unusedSimpArgs false
open Go.RowKit

/-- what the tables hold that this part of the library reads -/
structure Tab (w : World) : Prop where
  asc : Lib.TabIs Tryd.prog w "strings.asciiSpace" .u8 Lib.asciiSpaceTab
  len : ∃ m, w.cell? ⟨1, 0, none⟩ = some (.int .i64 m)

/-- the words, in their order, by their letters -/
def wordsText : List UInt8 := [65, 76, 76, 32, 65, 78, 68, 32, 65, 83, 32, 65, 83, 67, 32, 66, 79, 79, 76, 32, 66, 89, 32, 67, 65, 83, 84, 32, 67, 79, 65, 76, 69, 83, 67, 69, 32, 67, 79, 85, 78, 84, 32, 67, 82, 69, 65, 84, 69, 32, 67, 82, 79, 83, 83, 32, 68, 69, 76, 69, 84, 69, 32, 68, 69, 83, 67, 32, 68, 73, 83, 84, 73, 78, 67, 84, 32, 68, 82, 79, 80, 32, 69, 88, 67, 69, 80, 84, 32, 69, 88, 73, 83, 84, 83, 32, 70, 65, 76, 83, 69, 32, 70, 76, 79, 65, 84, 32, 70, 82, 79, 77, 32, 71, 82, 79, 85, 80, 32, 72, 65, 86, 73, 78, 71, 32, 73, 78, 32, 73, 78, 78, 69, 82, 32, 73, 78, 83, 69, 82, 84, 32, 73, 78, 84, 32, 73, 78, 84, 69, 82, 83, 69, 67, 84, 32, 73, 78, 84, 79, 32, 73, 83, 32, 74, 79, 73, 78, 32, 76, 69, 70, 84, 32, 76, 73, 77, 73, 84, 32, 77, 65, 88, 32, 77, 73, 78, 32, 78, 79, 84, 32, 78, 85, 76, 76, 32, 79, 78, 32, 79, 82, 32, 79, 82, 68, 69, 82, 32, 82, 69, 67, 85, 82, 83, 73, 86, 69, 32, 83, 69, 76, 69, 67, 84, 32, 83, 69, 84, 32, 83, 85, 77, 32, 84, 65, 66, 76, 69, 32, 84, 69, 88, 84, 32, 84, 82, 85, 69, 32, 85, 78, 73, 79, 78, 32, 85, 80, 68, 65, 84, 69, 32, 86, 65, 76, 85, 69, 83, 32, 86, 73, 69, 87, 32, 87, 72, 69, 82, 69, 32, 87, 73, 84, 72]
def wordsL : List (List UInt8) := Lib.fields wordsText

theorem words_ascii : ∀ (j : Nat) b, wordsText[j]? = some b → b.toNat < 128 := by
  have h : wordsText.all (fun b => b.toNat < 128) = true := by decide +kernel
  intro j b hb
  exact of_decide_eq_true (List.all_eq_true.1 h b (List.mem_of_getElem? hb))

set_option maxRecDepth 100000 in
theorem words_c (w : World) (ht : Tab w) :
    Calls Tryd.prog 39 #[] w fun e w' => e = .returned (.slice (some ⟨w.heap.size, 0, none⟩) wordsL.length wordsL.length) ∧ w' = w.alloc (.cells (wordsL.map fun l => Value.string ⟨l.toArray⟩).toArray 9) := by
  go_enter Tryd.func39, Tryd.ntmps39
  go_wp2_with (go_at_call 64; refine (Tryd.strings_Fields_laid ⟨wordsText.toArray⟩ _ (by decide +kernel) (by simpa using words_ascii) ht.asc).mono ?_; rintro e w' ⟨rfl, rfl⟩)
  go_ret
  exact ⟨rfl, rfl⟩

end Go.Proofs.YtlaafpbhhnehgaaDoor
