/- lex.isName: whether a text is a name. -/
import Derived.Test.YtlaafpbhhnehgaaDoorL4
namespace Go.Proofs.YtlaafpbhhnehgaaDoor
set_option linter.unusedVariables false
set_option linter.unusedSimpArgs false
open Go.RowKit Go.Lib

/-- a letter that no name has -/
def odd1 (r : Nat) : Bool := decide ((r : Int) < 32) || decide (126 < (r : Int))

set_option maxRecDepth 100000 in
theorem isName1_c (r : Nat) (w : World) : Calls Tryd.prog 53 #[.int .i32 (r : Int)] w fun e w' => e = .returned (.bool (odd1 r)) ∧ ∃ q, w' = w.drewN q := by
  go_enter Tryd.func53, Tryd.ntmps53
  go_wp2
  all_goals go_ret
  all_goals refine ⟨?_, 0, rfl⟩
  all_goals (simp [odd1, *]; try omega)

theorem enter_isName1 : ∀ args w, (callFunc 53 args).run Tryd.prog w = .ok (.enter 53 args) w := by
  intro args w
  simp [go_sem, Tryd.func53]

/-- whether a text is a name -/
def nameB (s : ByteArray) : Bool := if h : 0 < s.size then ((s[0].toNat : Int) != 64) && decide ((s.size : Int) ≤ 32) && decide (Lib.idxFunc odd1 true s < 0) else false

set_option maxRecDepth 100000 in
theorem isName_c (s : ByteArray) (w : World) : Calls Tryd.prog 26 #[.string s] w fun e w' => e = .returned (.bool (nameB s)) ∧ Below w.heap.size w w' := by
  have hp : ∀ W, PredAt Tryd.prog 53 #[] encR odd1 W := fun W W' x _ => isName1_c x W'
  by_cases h0 : 0 < s.size
  · have he : s.toList.isEmpty = false := by
      rw [ByteArray.toList_eq]; cases hd : s.data.toList with
      | nil => have : s.size = 0 := by simpa using congrArg List.length hd
               omega
      | cons a t => rfl
    go_enter Tryd.func26, Tryd.ntmps26
    go_wp2_with (go_at_call 30; refine (Tryd.strings_IndexFunc 53 #[] enter_isName1 odd1 s _ (hp _)).mono ?_; rintro e w' ⟨rfl, hb⟩)
    all_goals go_ret
    all_goals refine ⟨?_, (by repeat (first | (with_reducible exact Below.refl _ _) | (with_reducible refine below_al ?_ _) | (with_reducible refine below_drewN ?_ _) | (with_reducible refine Below.drew ?_) | (with_reducible refine below_via (by assumption) ?_) | (with_reducible refine below_sc ?_ ?_ _; · (first | (simp; done) | (simp; omega) | omega))))⟩
    all_goals (simp [nameB, *]; try omega)
  · have he : s = ⟨#[]⟩ := by
      cases s with | mk d => cases d with | mk l => cases l with
        | nil => rfl
        | cons a t => exact absurd (show 0 < (ByteArray.mk ⟨a :: t⟩).size by simp [ByteArray.size]) h0
    subst he
    go_enter Tryd.func26, Tryd.ntmps26
    go_wp2
    all_goals go_ret
    all_goals exact ⟨rfl, (by repeat (first | (with_reducible exact Below.refl _ _) | (with_reducible refine below_al ?_ _) | (with_reducible refine below_drewN ?_ _) | (with_reducible refine Below.drew ?_) | (with_reducible refine below_via (by assumption) ?_) | (with_reducible refine below_sc ?_ ?_ _; · (first | (simp; done) | (simp; omega) | omega))))⟩

end Go.Proofs.YtlaafpbhhnehgaaDoor
