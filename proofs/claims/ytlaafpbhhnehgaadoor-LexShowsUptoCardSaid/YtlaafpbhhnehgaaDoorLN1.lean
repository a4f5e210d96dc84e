/- Plain: the document's words are the program's. -/
import Derived.Test.YtlaafpbhhnehgaaDoorXL
namespace Go.Proofs.YtlaafpbhhnehgaaDoor
set_option linter.unusedVariables false
set_option linter.unusedSimpArgs false
open Go.RowKit

theorem search_iff (l : List UInt8) : ∀ (f i : Nat), searchR l f i = true ↔ ∃ j, i ≤ j ∧ j < i + f ∧ j + l.length + 2 ≤ 287 ∧ (wordsT.drop j).take (l.length + 2) = 32 :: (l ++ [32])
  | 0, i => by
    constructor
    · intro h; simp [searchR] at h
    · rintro ⟨j, h1, h2, _⟩; omega
  | f + 1, i => by
    have ih := search_iff l f (i + 1)
    rw [searchR]
    by_cases h1 : i + l.length + 2 ≤ 287
    · rw [if_pos h1]
      by_cases h2 : (wordsT.drop i).take (l.length + 2) = 32 :: (l ++ [32])
      · rw [if_pos h2]
        exact ⟨fun _ => ⟨i, Nat.le_refl _, by omega, h1, h2⟩, fun _ => rfl⟩
      · rw [if_neg h2, ih]
        constructor
        · rintro ⟨j, a, b, c, d⟩; exact ⟨j, by omega, by omega, c, d⟩
        · rintro ⟨j, a, b, c, d⟩
          refine ⟨j, ?_, by omega, c, d⟩
          by_cases hj : j = i
          · subst hj; exact absurd d h2
          · omega
    · rw [if_neg h1]
      constructor
      · intro h; cases h
      · rintro ⟨j, a, b, c, d⟩; omega

theorem words_in : wordsL.all (fun w => w.all capB && (decide (0 < w.length) && searchR w 300 0)) = true := by decide +kernel
theorem words_at : (List.range 287).all (fun j => !((wordsT.drop j).head? == some 32) || (((wordsT.drop (j + 1)).takeWhile (· != 32)) == [] || wordsL.contains ((wordsT.drop (j + 1)).takeWhile (· != 32)))) = true := by decide +kernel

theorem cap_ne {b : UInt8} (h : capB b = true) : (b != 32) = true := by
  have : b ≠ 32 := by rintro rfl; simp [capB] at h
  simpa using this
theorem takeW (l r : List UInt8) (h : l.all capB = true) : (l ++ 32 :: r).takeWhile (· != 32) = l := by
  induction l with
  | nil => simp
  | cons c t ih =>
    rw [List.all_cons, Bool.and_eq_true] at h
    rw [List.cons_append, List.takeWhile_cons, cap_ne h.1, if_pos rfl, ih h.2]

theorem isRW_eq (l : List UInt8) : isRW l = isWd l := by
  rw [Bool.eq_iff_iff]
  constructor
  · intro h
    simp only [isRW, Bool.and_eq_true, decide_eq_true_eq] at h
    obtain ⟨hc, hl, hs⟩ := h
    obtain ⟨j, _, hj, hj2, he⟩ := (search_iff l 300 0).1 hs
    have h1 : wordsT.drop j = (32 :: (l ++ [32])) ++ (wordsT.drop j).drop (l.length + 2) := by
      rw [← he, List.take_append_drop]
    have h2 : wordsT.drop (j + 1) = l ++ 32 :: (wordsT.drop j).drop (l.length + 2) := by
      rw [← List.drop_drop, h1]; simp
    have hw := List.all_eq_true.1 words_at j (List.mem_range.2 (by omega))
    rw [h2, takeW _ _ hc, h1] at hw
    simp only [List.cons_append, List.head?_cons, beq_self_eq_true, Bool.not_true, Bool.false_or, Bool.or_eq_true] at hw
    rcases hw with hw | hw
    · have : l = [] := by simpa using hw
      rw [this] at hl; simp at hl
    · exact hw
  · intro h
    have hm : l ∈ wordsL := by unfold isWd at h; simpa using h
    exact List.all_eq_true.1 words_in l hm

end Go.Proofs.YtlaafpbhhnehgaaDoor
