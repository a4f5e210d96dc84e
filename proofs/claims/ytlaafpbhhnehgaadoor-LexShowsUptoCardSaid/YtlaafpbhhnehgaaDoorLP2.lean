/- Plain: what a scan passes over: blanks and remarks, letter by letter. -/
import Derived.Test.YtlaafpbhhnehgaaDoorLP1
import Derived.Lib.SlTrimSet
import Derived.Lib.IndexMore
namespace Go.Proofs.YtlaafpbhhnehgaaDoor
set_option linter.unusedVariables false
set_option linter.unusedSimpArgs false
open Go.Lib

def sp (c : UInt8) : Bool := c == 9 || c == 10 || c == 13 || c == 32

/-- modes: 0 blanks, 1 in a line's remark, 2 at a remark's second letter, 3 in a remark, 4 at its last letter. What is left, and whether every remark is ended; else what is left from the remark on. -/
def skipL : Nat → List UInt8 → List UInt8 → List UInt8 × Bool
  | m, st, [] => if m = 2 ∨ m = 3 then (st, false) else ([], true)
  | m, st, c :: t =>
    if m = 0 then
      if sp c then skipL 0 [] t
      else if c = 45 ∧ t.head? = some 45 then skipL 1 [] t
      else if c = 47 ∧ t.head? = some 42 then skipL 2 (c :: t) t
      else (c :: t, true)
    else if m = 1 then if c = 10 then skipL 0 [] t else skipL 1 [] t
    else if m = 2 then skipL 3 st t
    else if m = 3 then if c = 42 ∧ t.head? = some 47 then skipL 4 st t else skipL 3 st t
    else skipL 0 [] t

theorem skip_sp (c : UInt8) (t : List UInt8) (h : sp c = true) : skipL 0 [] (c :: t) = skipL 0 [] t := by rw [skipL]; simp [h]

theorem trim_sp (l : List UInt8) : trimLeftS l [9, 10, 13, 32] = l.dropWhile sp := by
  unfold trimLeftS
  congr 1
  funext c
  simp only [List.contains_cons, List.contains_nil, Bool.or_false, sp, Bool.or_assoc]

theorem skip_trim : ∀ l : List UInt8, skipL 0 [] l = skipL 0 [] (l.dropWhile sp)
  | [] => rfl
  | c :: t => by
    by_cases h : sp c = true
    · rw [skip_sp c t h, List.dropWhile_cons_of_pos h]; exact skip_trim t
    · rw [List.dropWhile_cons_of_neg h]

theorem drop_trim (l : List UInt8) : ∃ n, n ≤ l.length ∧ l.dropWhile sp = l.drop n := by
  induction l with
  | nil => exact ⟨0, by simp, rfl⟩
  | cons c t ih =>
    by_cases h : sp c = true
    · obtain ⟨n, hn, e⟩ := ih
      exact ⟨n + 1, by simp; omega, by rw [List.dropWhile_cons_of_pos h, e]; rfl⟩
    · exact ⟨0, by simp, by rw [List.dropWhile_cons_of_neg h]; rfl⟩

theorem trim_head (l : List UInt8) (c : UInt8) (t : List UInt8) (h : l.dropWhile sp = c :: t) : sp c = false := by
  induction l with
  | nil => simp at h
  | cons a r ih =>
    by_cases ha : sp a = true
    · rw [List.dropWhile_cons_of_pos ha] at h; exact ih h
    · rw [List.dropWhile_cons_of_neg ha] at h
      obtain ⟨rfl, rfl⟩ := List.cons.inj h
      simpa using ha

/-- a line's end -/
theorem cut_line : ∀ l : List UInt8, (Lib.cut l [10]).1.length ≤ l.length ∧ skipL 1 [] l = skipL 0 [] (l.drop (Lib.cut l [10]).1.length)
  | [] => by simp [Lib.cut, Lib.index, skipL]
  | c :: t => by
    have ih := cut_line t
    have hge := index_ge t [10]
    by_cases hc : c = 10
    · subst hc
      have hi : index (10 :: t) [10] = 0 := by simp [index, List.isPrefixOf]
      have e : (Lib.cut (10 :: t) [10]).1 = [] := by simp [Lib.cut, hi]
      rw [e]
      refine ⟨by simp, ?_⟩
      rw [List.length_nil, List.drop_zero, skip_sp 10 t (by decide)]
      rw [skipL]; simp
    · have hp : ([10] : List UInt8).isPrefixOf (c :: t) = false := by simp [List.isPrefixOf]; exact fun h => hc h.symm
      have hi : index (c :: t) [10] = if index t [10] == -1 then -1 else index t [10] + 1 := by rw [index, hp]; simp
      have e : (Lib.cut (c :: t) [10]).1 = c :: (Lib.cut t [10]).1 := by
        by_cases hm : index t [10] = -1
        · rw [hm] at hi; simp [Lib.cut, hi, hm]
        · have h1 : 0 ≤ index t [10] := by omega
          have h2 : index (c :: t) [10] = index t [10] + 1 := by rw [hi]; simp [hm]
          simp only [Lib.cut, h2, if_pos h1, if_pos (show 0 ≤ index t [10] + 1 by omega)]
          rw [show (index t [10] + 1).toNat = (index t [10]).toNat + 1 by omega, List.take_succ_cons]
      rw [e, List.length_cons, List.drop_succ_cons]
      refine ⟨by simp; exact ih.1, ?_⟩
      rw [← ih.2, skipL]; simp [hc]

theorem pre2 {a b : UInt8} {l : List UInt8} (h : hasPrefix l [a, b] = true) : ∃ t, l = a :: b :: t := by
  unfold hasPrefix at h
  match l, h with
  | [], h => simp [List.isPrefixOf] at h
  | [x], h => simp [List.isPrefixOf] at h
  | x :: y :: t, h =>
    simp [List.isPrefixOf] at h
    exact ⟨t, by rw [h.1, h.2]⟩

theorem skip_line (l : List UInt8) (h : hasPrefix l [45, 45] = true) : skipL 0 [] l = skipL 0 [] (l.drop (Lib.cut l [10]).1.length) ∧ (Lib.cut l [10]).1.length ≤ l.length ∧ 0 < (Lib.cut l [10]).1.length := by
  obtain ⟨t, rfl⟩ := pre2 h
  obtain ⟨h1, h2⟩ := cut_line (45 :: 45 :: t)
  refine ⟨?_, h1, ?_⟩
  · rw [← h2]
    have e1 : skipL 0 [] (45 :: 45 :: t) = skipL 1 [] (45 :: t) := by rw [skipL]; simp [sp]
    have e2 : skipL 1 [] (45 :: 45 :: t) = skipL 1 [] (45 :: t) := by rw [skipL]; simp
    rw [e1, e2]
  · have hp : ([10] : List UInt8).isPrefixOf (45 :: 45 :: t) = false := by simp [List.isPrefixOf]
    have hi : index (45 :: 45 :: t) [10] = if index (45 :: t) [10] == -1 then -1 else index (45 :: t) [10] + 1 := by rw [index, hp]; simp
    have hge := index_ge (45 :: t) [10]
    unfold Lib.cut
    by_cases hm : index (45 :: t) [10] = -1
    · rw [hm] at hi; rw [hi]; simp
    · have h2 : index (45 :: 45 :: t) [10] = index (45 :: t) [10] + 1 := by rw [hi]; simp [hm]
      rw [h2, if_pos (by omega), show (index (45 :: t) [10] + 1).toNat = (index (45 :: t) [10]).toNat + 1 by omega, List.take_succ_cons]; simp

theorem skip4 (st l : List UInt8) (c : UInt8) : skipL 4 st (c :: l) = skipL 0 [] l := by rw [skipL]; simp

/-- a remark's end -/
theorem skip_rem (st : List UInt8) : ∀ l : List UInt8, (index l [42, 47] = -1 → skipL 3 st l = (st, false)) ∧ (∀ n : Nat, index l [42, 47] = n → skipL 3 st l = skipL 0 [] (l.drop (n + 2)) ∧ n + 2 ≤ l.length)
  | [] => by
    constructor
    · intro _; rw [skipL]; simp
    · intro n h; simp [index] at h
  | c :: t => by
    have ih := skip_rem st t
    have hge := index_ge t [42, 47]
    by_cases hp : ([42, 47] : List UInt8).isPrefixOf (c :: t) = true
    · have hi : index (c :: t) [42, 47] = 0 := by rw [index, hp]; simp
      obtain ⟨u, hu⟩ := pre2 (l := c :: t) hp
      obtain ⟨rfl, rfl⟩ := List.cons.inj hu
      rw [hi]
      refine ⟨fun h => by omega, fun n h => ?_⟩
      obtain rfl : n = 0 := by omega
      refine ⟨?_, by simp⟩
      rw [skipL]; simp [skip4]
    · have hp' : ([42, 47] : List UInt8).isPrefixOf (c :: t) = false := Bool.eq_false_iff.2 hp
      have hi : index (c :: t) [42, 47] = if index t [42, 47] == -1 then -1 else index t [42, 47] + 1 := by rw [index, hp']; simp
      have hs : skipL 3 st (c :: t) = skipL 3 st t := by
        have : ¬ (c = 42 ∧ t.head? = some 47) := by
          rintro ⟨rfl, h⟩
          match t, h with
          | x :: t', h => simp at h; subst h; simp [List.isPrefixOf] at hp'
        rw [skipL]; simp only [if_neg this]; simp
      rw [hs]
      by_cases hm : index t [42, 47] = -1
      · rw [hm] at hi
        refine ⟨fun _ => ih.1 hm, fun n h => ?_⟩
        rw [hi] at h; simp at h
      · have h2 : index (c :: t) [42, 47] = index t [42, 47] + 1 := by rw [hi]; simp [hm]
        rw [h2]
        refine ⟨fun h => by omega, fun n h => ?_⟩
        obtain ⟨m, rfl⟩ : ∃ m, n = m + 1 := ⟨n - 1, by omega⟩
        have := ih.2 m (by omega)
        refine ⟨?_, by simp; omega⟩
        rw [this.1, show m + 1 + 2 = (m + 2) + 1 by omega, List.drop_succ_cons]

theorem skip_rem2 (l : List UInt8) (h : hasPrefix l [47, 42] = true) :
    (index (l.drop 2) [42, 47] = -1 → skipL 0 [] l = (l, false)) ∧ (∀ n : Nat, index (l.drop 2) [42, 47] = n → skipL 0 [] l = skipL 0 [] (l.drop (n + 4)) ∧ n + 4 ≤ l.length) := by
  obtain ⟨t, rfl⟩ := pre2 h
  have e : skipL 0 [] (47 :: 42 :: t) = skipL 3 (47 :: 42 :: t) t := by
    rw [skipL]; simp [sp]
    rw [skipL]; simp
  rw [e]
  have hr := skip_rem (47 :: 42 :: t) t
  refine ⟨hr.1, fun n hn => ?_⟩
  have := hr.2 n hn
  refine ⟨?_, by simp; omega⟩
  rw [this.1, show n + 4 = (n + 2) + 2 by omega]
  simp only [List.drop_succ_cons]

theorem skip_end (l : List UInt8) (hs : ∀ c t, l = c :: t → sp c = false) (h1 : hasPrefix l [45, 45] = false) (h2 : hasPrefix l [47, 42] = false) : skipL 0 [] l = (l, true) := by
  match l with
  | [] => rfl
  | c :: t =>
    have hc := hs c t rfl
    have n1 : ¬ (c = 45 ∧ t.head? = some 45) := by
      rintro ⟨rfl, h⟩
      match t, h with
      | x :: t', h => simp at h; subst h; simp [hasPrefix, List.isPrefixOf] at h1
    have n2 : ¬ (c = 47 ∧ t.head? = some 42) := by
      rintro ⟨rfl, h⟩
      match t, h with
      | x :: t', h => simp at h; subst h; simp [hasPrefix, List.isPrefixOf] at h2
    rw [skipL]; simp [hc, n1, n2]

end Go.Proofs.YtlaafpbhhnehgaaDoor
