/- Plain: one byte replaced by some bytes. -/
import Derived.Test.YthpkjkcfhipjhaaDoorRP1
import Derived.Lib.Replace
import Derived.Lib.CountLaws
import Derived.Lib.IndexBytes
namespace Go.Proofs.YthpkjkcfhipjhaaDoor
set_option linter.unusedVariables false
set_option linter.unusedSimpArgs false
open Go.Lib

/-- new in the place of each q -/
def rep1 (q : UInt8) (new : List UInt8) : List UInt8 → List UInt8
  | [] => []
  | c :: t => if c = q then new ++ rep1 q new t else c :: rep1 q new t

theorem replaceK_rep1 (q : UInt8) (new : List UInt8) : ∀ l, replaceK [q] new (Lib.count l [q]) l = rep1 q new l
  | [] => by
    have h : Lib.count [] [q] = 0 := count_miss rfl
    rw [h]; rfl
  | b :: l => by
    have ih := replaceK_rep1 q new l
    by_cases hb : b = q
    · subst hb
      have hi : index (b :: l) [b] = (0 : Nat) := by simp [index, List.isPrefixOf]
      rw [count_hit (by simp) hi, Nat.add_comm, replaceK_hit _ _ _ _ _ hi]
      simp only [List.take_zero, List.nil_append, rep1, if_true]
      simp only [Nat.zero_add, List.length_cons, List.length_nil, List.drop_succ_cons, List.drop_zero, ih]
    · have hp : ([q] : List UInt8).isPrefixOf (b :: l) = false := by simp [List.isPrefixOf]; exact fun h => hb h.symm
      have hi : index (b :: l) [q] = if index l [q] == -1 then -1 else index l [q] + 1 := by rw [index, hp]; simp
      simp only [rep1, if_neg hb]
      by_cases hm : index l [q] = -1
      · rw [hm] at hi
        rw [count_miss hm] at ih
        rw [count_miss hi, ← ih]; rfl
      · have hge := index_ge l [q]
        obtain ⟨j, hj⟩ : ∃ j : Nat, index l [q] = j := ⟨(index l [q]).toNat, by omega⟩
        have hi2 : index (b :: l) [q] = ((j + 1 : Nat) : Int) := by
          rw [hi, hj, if_neg (by simp)]; rfl
        rw [count_hit (by simp) hj, Nat.add_comm, replaceK_hit _ _ _ _ _ hj] at ih
        rw [count_hit (by simp) hi2, Nat.add_comm, replaceK_hit _ _ _ _ _ hi2, ← ih]
        have e : ∀ m, (b :: l).drop (j + 1 + m) = l.drop (j + m) := fun m => by rw [show j + 1 + m = (j + m) + 1 by omega, List.drop_succ_cons]
        rw [e, List.take_succ_cons]; rfl

theorem rep1_esc : ∀ l, rep1 0 [0, 255] l = escT l
  | [] => rfl
  | c :: t => by
    have := rep1_esc t
    unfold rep1 escT
    split <;> simp [this]

theorem replaceAll_esc (l : List UInt8) : Lib.replaceAll l [0] [0, 255] = escT l := by
  have hne : (([0] : List UInt8) == [0, 255]) = false := by decide
  rw [replaceAll, replace, hne]
  simp only [Bool.false_eq_true, if_false]
  have : replaceNum l [0] (-1) = Lib.count l [0] := by simp [replaceNum]
  rw [this, replaceK_rep1, rep1_esc]
theorem escT_len : ∀ l, (escT l).length ≤ 2 * l.length
  | [] => by simp [escT]
  | c :: t => by
    have := escT_len t
    unfold escT; split <;> simp only [List.length_cons] <;> omega
theorem encV_len (x : V) (h : sV x = true) : (encV x).length ≤ 8195 := by
  unfold encV
  rw [List.length_cons]
  split
  · rw [beB_len]; omega
  · split
    · rw [List.length_append]
      have := escT_len x.t.data.toList
      have h4 : x.t.size ≤ 4096 := by
        rcases sound_cases h with c | c | c | c | c
        · have := c.1; omega
        · have := c.1; omega
        · have := c.1; omega
        · have := c.1; omega
        · exact c.2.2.2
      rw [Lib.size_eq] at h4
      simp; omega
    · simp
theorem encR_len : ∀ l : List V, (∀ x ∈ l, sV x = true) → (encR l).length ≤ 8195 * l.length
  | [], _ => by simp [encR]
  | x :: l, h => by
    have e : encR (x :: l) = encV x ++ encR l := rfl
    have h1 := encV_len x (h x (by simp))
    have h2 := encR_len l (fun y hy => h y (by simp [hy]))
    rw [e, List.length_append, List.length_cons]; omega

end Go.Proofs.YthpkjkcfhipjhaaDoor
