/- Plain: a word is found in the sorted list just if it stands there. -/
import Derived.Test.YtlaafpbhhnehgaaDoorL4
import Derived.Sort.Walk0
namespace Go.Proofs.YtlaafpbhhnehgaaDoor
set_option linter.unusedVariables false
set_option linter.unusedSimpArgs false
open Go.RowKit Go.Proofs.YtlaafpbhhnehgaaDoorW.PrintWords Go.Proofs.YtlaafpbhhnehgaaDoorW.PrintLast PLB

/-- whether a text is a word of the language -/
def isWd (l : List UInt8) : Bool := wordsL.contains l

def wd (i : Nat) : List UInt8 := wordsL.getD i []
theorem words_n : wordsL.length = 52 := by decide +kernel
theorem wd_all : ∀ i : Fin 52, ∀ j : Fin 52, i.1 < j.1 → Op.bytesLess (wd i.1) (wd j.1) = true := by decide +kernel
theorem wd_lt (i j : Nat) (hi : i < 52) (hj : j < 52) (hij : i < j) : wd i < wd j := by
  have h : Op.bytesLess (wd i) (wd j) = true := wd_all ⟨i, hi⟩ ⟨j, hj⟩ hij
  rw [bytesLess_eq] at h
  exact of_decide_eq_true h
theorem rd_wd (i : Nat) (h : i < 52) : (rdOf ByteArray.empty wordsB (i : Int)).toList = wd i := by
  have hl : i < wordsL.length := by rw [words_n]; exact h
  unfold rdOf wordsB wd
  simp [ByteArray.toList_eq, hl]
theorem mem_wd (l : List UInt8) : isWd l = true ↔ ∃ i, i < 52 ∧ wd i = l := by
  unfold isWd wd
  rw [List.contains_iff_mem, List.mem_iff_getElem]
  constructor
  · rintro ⟨i, hi, rfl⟩; exact ⟨i, by rw [words_n] at hi; exact hi, by simp [hi]⟩
  · rintro ⟨i, hi, rfl⟩
    have hl : i < wordsL.length := by rw [words_n]; exact hi
    exact ⟨i, hl, by simp [hl]⟩

theorem less_ev (a b : ByteArray) : cmp_Less_string.f a b = some (Op.bytesLess a.toList b.toList) := by
  simp [cmp_Less_string.f, cmp_isNaN_string.f]

theorem bs_ev (s : ByteArray) : ∀ (d lo hi : Nat), hi - lo ≤ d → lo ≤ hi → hi ≤ 52 → (∀ i, i < lo → wd i < s.toList) → (∀ i, hi ≤ i → i < 52 → ¬ wd i < s.toList) →
    ∃ r : Int, Ev (fun k => slices_BinarySearch_string_string.l0 k wordsB s 52 (lo : Int) (hi : Int)) (r, isWd s.toList) := by
  intro d
  have hlen : (wordsB.length : Int) = 52 := by rw [wordsB_len, words_n]; rfl
  induction d with
  | zero =>
    intro lo hi h1 h2 h3 hA hB
    have he : hi = lo := by omega
    subst he
    have hnot : ∀ i, i < hi → wd i ≠ s.toList := fun i hi' e => by have := hA i hi'; rw [e] at this; exact absurd this (List.lt_irrefl _)
    by_cases hlo : hi < 52
    · by_cases heq : wd hi = s.toList
      · refine ⟨hi, ?_⟩
        have hw : isWd s.toList = true := (mem_wd _).2 ⟨hi, hlo, heq⟩
        rw [hw]
        refine Ev.step (f := fun _ => some ((hi : Int), true)) (fun k => ?_) (Ev.now _)
        rw [slices_BinarySearch_string_string.l0, if_neg (by omega), if_pos (by omega), if_pos (by omega), hlen, if_pos (by omega), rd_wd hi hlo, if_pos heq]
      · refine ⟨hi, ?_⟩
        have hw : isWd s.toList = false := by
          rw [Bool.eq_false_iff]; intro hc
          obtain ⟨i, hi1, hi2⟩ := (mem_wd _).1 hc
          by_cases hlt : i < hi
          · exact hnot i hlt hi2
          · by_cases hie : i = hi
            · subst hie; exact heq hi2
            · have := wd_lt hi i hlo hi1 (by omega)
              rw [hi2] at this
              exact hB hi (Nat.le_refl _) hlo this
        rw [hw]
        refine Ev.step (f := fun _ => some ((hi : Int), false)) (fun k => ?_) (Ev.now _)
        rw [slices_BinarySearch_string_string.l0, if_neg (by omega), if_pos (by omega), if_pos (by omega), hlen, if_pos (by omega), rd_wd hi hlo, if_neg heq]
        simp [slices_isNaN_string.f]
    · refine ⟨hi, ?_⟩
      have hw : isWd s.toList = false := by
        rw [Bool.eq_false_iff]; intro hc
        obtain ⟨i, hi1, hi2⟩ := (mem_wd _).1 hc
        exact hnot i (by omega) hi2
      rw [hw]
      refine Ev.step (f := fun _ => some ((hi : Int), false)) (fun k => ?_) (Ev.now _)
      rw [slices_BinarySearch_string_string.l0, if_neg (by omega), if_neg (by omega)]
  | succ d ih =>
    intro lo hi h1 h2 h3 hA hB
    by_cases hlt : lo < hi
    · obtain ⟨m, hm⟩ : ∃ m, m = (lo + hi) / 2 := ⟨_, rfl⟩
      have hm1 : lo ≤ m := by omega
      have hm2 : m < hi := by omega
      have hm3 : m < 52 := by omega
      have em : wrap64 ((IntKind.u64.wrap (wrap64 ((lo : Int) + (hi : Int)))) / 2) = (m : Int) := by
        have e1 : wrap64 ((lo : Int) + (hi : Int)) = (lo : Int) + hi := by unfold wrap64; omega
        have e2 : IntKind.u64.wrap ((lo : Int) + hi) = (lo : Int) + hi := by rw [IntKind.wrap_u64]; omega
        have e3 : ((lo : Int) + hi) / 2 = (m : Int) := by omega
        rw [e1, e2, e3]; unfold wrap64; omega
      have c1 : (lo : Int) < (hi : Int) := by omega
      have c2 : 0 ≤ (m : Int) := by omega
      have c3 : (m : Int) < 52 := by omega
      have em1 : wrap64 ((m : Int) + 1) = ((m + 1 : Nat) : Int) := by unfold wrap64; omega
      by_cases hl : wd m < s.toList
      · obtain ⟨r, hr⟩ := ih (m + 1) hi (by omega) (by omega) h3 (fun i hi' => by
          by_cases h : i < m
          · exact List.lt_trans (wd_lt i m (by omega) (by omega) h) hl
          · have : i = m := by omega
            subst this; exact hl) hB
        refine ⟨r, Ev.step (fun k => ?_) hr⟩
        rw [slices_BinarySearch_string_string.l0, if_pos c1, em, if_pos c2, hlen, if_pos c3, less_ev, rd_wd m hm3, bytesLess_eq, decide_eq_true hl, Option.bind_some, if_pos rfl, em1]
      · obtain ⟨r, hr⟩ := ih lo m (by omega) hm1 (by omega) hA (fun i hi1 hi2 hc => by
          by_cases h : i = m
          · subst h; exact hl hc
          · exact hl (List.lt_trans (wd_lt m i (by omega) hi2 (by omega)) hc))
        refine ⟨r, Ev.step (fun k => ?_) hr⟩
        rw [slices_BinarySearch_string_string.l0, if_pos c1, em, if_pos c2, hlen, if_pos c3, less_ev, rd_wd m hm3, bytesLess_eq, decide_eq_false hl, Option.bind_some, if_neg Bool.false_ne_true]
    · exact ih lo hi (by omega) h2 h3 hA hB

theorem search_ev (s : ByteArray) : ∃ k i, slices_BinarySearch_string_string.f k wordsB s = some (i, isWd s.data.toList) := by
  obtain ⟨r, hr⟩ := bs_ev s 52 0 52 (by omega) (by omega) (by omega) (fun i h => absurd h (by omega)) (fun i h h' => absurd h' (by omega))
  obtain ⟨k, hk⟩ := hr.rounds
  refine ⟨k, r, ?_⟩
  have hlen : (wordsB.length : Int) = 52 := by rw [wordsB_len, words_n]; rfl
  rw [slices_BinarySearch_string_string.f, hlen, ← ByteArray.toList_eq]
  exact hk

theorem isWord_k (s : ByteArray) (w : World) (ht : Tab w) :
    Calls Tryd.prog 15 #[.string s] w fun e w' => e = .returned (.bool (isWd s.data.toList)) ∧ Below w.heap.size w w' := by
  obtain ⟨k, i, h⟩ := search_ev s
  exact isWord_c s w ht k i _ h

end Go.Proofs.YtlaafpbhhnehgaaDoor
