/- lex.IsWord: a word is looked up in the sorted list. -/
import Derived.Test.YtlaafpbhhnehgaaDoorL3
import Derived.Test.YtlaafpbhhnehgaaDoorPLBx
namespace Go.Proofs.YtlaafpbhhnehgaaDoor
set_option linter.unusedVariables false
set_option linter.unusedSimpArgs false
open Go.RowKit Go.Proofs.YtlaafpbhhnehgaaDoorW.PrintWords Go.Proofs.YtlaafpbhhnehgaaDoorW.PrintLast

def wordsB : List ByteArray := wordsL.map fun l => ⟨l.toArray⟩

theorem wordsB_len : wordsB.length = wordsL.length := by simp [wordsB]

theorem words_row (w : World) (cs : List (List UInt8)) (t : TypeId) (h : cs.length ≤ 9223372036854775807) :
    Kd.C Kd.string (w.alloc (.cells (cs.map fun l => Value.string ⟨l.toArray⟩).toArray t)) (some ⟨w.heap.size, 0, none⟩) (cs.map fun l => (⟨l.toArray⟩ : ByteArray)).length (cs.map fun l => (⟨l.toArray⟩ : ByteArray)) := by
  refine ⟨rfl, by simpa using h, fun _ => ⟨_, rfl, fun j p hj => ⟨[.string p], rfl, rfl, ?_⟩⟩⟩
  intro i u hu
  match i, hu with
  | 0, hu =>
    obtain rfl : Value.string p = u := by simpa using hu
    have e : ({ block := w.heap.size, off := 0, spot := none } : Addr).add (j * Kd.string.sz + 0) = ⟨w.heap.size, j, none⟩ := by
      simp [Addr.add, show Kd.string.sz = 1 from rfl]; omega
    rw [e, World.cell?_alloc_mark]
    rw [List.getElem?_map] at hj
    obtain ⟨l, hl, rfl⟩ := Option.map_eq_some_iff.1 hj
    simp [hl]

theorem words_k (w : World) (ht : Tab w) :
    Calls Tryd.prog 39 #[] w fun e w' => e = .returned (.slice (some ⟨w.heap.size, 0, none⟩) wordsB.length wordsB.length) ∧ Below w.heap.size w w' ∧ Kd.C Kd.string w' (some ⟨w.heap.size, 0, none⟩) wordsB.length wordsB :=
  (words_c w ht).mono fun e w' ⟨h1, h2⟩ => ⟨by rw [wordsB_len]; exact h1, by subst h2; exact below_box _ _, by subst h2; exact words_row w wordsL 9 (by decide +kernel)⟩

set_option maxRecDepth 100000 in
theorem isWord_c (s : ByteArray) (w : World) (ht : Tab w) (k : Nat) (i : Int) (r : Bool) (h : PLB.slices_BinarySearch_string_string.f k wordsB s = some (i, r)) :
    Calls Tryd.prog 15 #[.string s] w fun e w' => e = .returned (.bool r) ∧ Below w.heap.size w w' := by
  go_enter Tryd.func15, Tryd.ntmps15
  go_wp2_with (first | (go_at_call 39; refine (words_k _ ht).mono ?_; rintro e W ⟨rfl, hb, hC⟩) | (go_at_call 38; refine (PLB.slices_BinarySearch_string_string.calls k _ _ wordsB s i r _ hC (Nat.le_refl _) h).mono ?_; rintro e W' ⟨rfl, n, rfl⟩))
  go_ret
  exact ⟨rfl, hb.os, hb.tape, hb.output, hb.size, hb.block⟩

end Go.Proofs.YtlaafpbhhnehgaaDoor
