/- Plain: a text between quotes, each quote within it twice. -/
import Derived.Lib.Replace
import Derived.Lib.CountLaws
import Derived.Lib.IndexBytes
namespace Go.Proofs.YtlaafpbhhnehgaaDoor
set_option linter.unusedVariables false
set_option linter.unusedSimpArgs false
open Go.Lib

/-- each q twice -/
def dbl (q : UInt8) : List UInt8 → List UInt8
  | [] => []
  | c :: t => if c = q then q :: q :: dbl q t else c :: dbl q t

theorem dbl_len (q : UInt8) : ∀ l, (dbl q l).length ≤ 2 * l.length
  | [] => by simp [dbl]
  | c :: t => by
    have := dbl_len q t
    unfold dbl; split <;> simp only [List.length_cons] <;> omega

theorem replaceK_dbl (q : UInt8) : ∀ l, replaceK [q] [q, q] (Lib.count l [q]) l = dbl q l
  | [] => by
    have h : Lib.count [] [q] = 0 := count_miss rfl
    rw [h]; rfl
  | b :: l => by
    have ih := replaceK_dbl q l
    by_cases hb : b = q
    · subst hb
      have hi : index (b :: l) [b] = (0 : Nat) := by simp [index, List.isPrefixOf]
      rw [count_hit (by simp) hi, Nat.add_comm, replaceK_hit _ _ _ _ _ hi]
      simp only [List.take_zero, List.nil_append, dbl, if_true]
      simp only [Nat.zero_add, List.length_cons, List.length_nil, List.drop_succ_cons, List.drop_zero, ih, List.cons_append, List.nil_append]
    · have hp : ([q] : List UInt8).isPrefixOf (b :: l) = false := by simp [List.isPrefixOf]; exact fun h => hb h.symm
      have hi : index (b :: l) [q] = if index l [q] == -1 then -1 else index l [q] + 1 := by rw [index, hp]; simp
      simp only [dbl, if_neg hb]
      by_cases hm : index l [q] = -1
      · rw [hm] at hi
        rw [count_miss hm] at ih
        rw [count_miss hi, ← ih]; rfl
      · have hge := index_ge l [q]
        obtain ⟨j, hj⟩ : ∃ j : Nat, index l [q] = j := ⟨(index l [q]).toNat, by omega⟩
        have hi2 : index (b :: l) [q] = ((j + 1 : Nat) : Int) := by
          rw [hi, hj, if_neg (by simp)]; rfl
        rw [count_hit (by simp) hj, Nat.add_comm, replaceK_hit _ _ _ _ _ hj] at ih
        rw [count_hit (by simp) hi2, Nat.add_comm, replaceK_hit _ _ _ _ _ hi2, ← ih]
        have e : ∀ m, (b :: l).drop (j + 1 + m) = l.drop (j + m) := fun m => by rw [show j + 1 + m = (j + m) + 1 by omega, List.drop_succ_cons]
        rw [e, List.take_succ_cons]; rfl

theorem replaceAll_dbl (q : UInt8) (l : List UInt8) : Lib.replaceAll l [q] [q, q] = dbl q l := by
  have hne : (([q] : List UInt8) == [q, q]) = false := by simp
  rw [replaceAll, replace, hne]
  simp only [Bool.false_eq_true, if_false]
  have : replaceNum l [q] (-1) = Lib.count l [q] := by simp [replaceNum]
  rw [this, replaceK_dbl]

/-- a text between quotes -/
def quoteL (q : UInt8) (l : List UInt8) : List UInt8 := q :: (dbl q l ++ [q])

end Go.Proofs.YtlaafpbhhnehgaaDoor
