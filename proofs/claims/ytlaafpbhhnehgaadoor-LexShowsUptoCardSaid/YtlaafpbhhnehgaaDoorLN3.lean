/- The document's Name; LexNames answers true. -/
import Derived.Test.YtlaafpbhhnehgaaDoorLN2
import Derived.Test.YtlaafpbhhnehgaaDoorLA
namespace Go.Proofs.YtlaafpbhhnehgaaDoor
set_option linter.unusedVariables false
set_option linter.unusedSimpArgs false
open Go.RowKit Go.Proofs.YtlaafpbhhnehgaaDoorW.PrintWords Go.Proofs.YtlaafpbhhnehgaaDoorW.PrintLast PLX

theorem dig_eq (c : Int) : freshetref13_digit.f c = some (isDig c) := by
  unfold freshetref13_digit.f isDig
  by_cases h : c ≥ 48
  · rw [if_pos h, decide_eq_true h, Bool.true_and]
  · rw [if_neg h, decide_eq_false h, Bool.false_and]
theorem let_eq (c : Int) : freshetref13_letter.f c = some (isLet c) := by
  unfold freshetref13_letter.f isLet
  by_cases h1 : c ≥ 97
  · by_cases h2 : c ≤ 122
    · rw [if_pos h1, if_pos h2]; simp; omega
    · rw [if_pos h1, if_neg h2]
      by_cases h3 : c ≥ 65
      · by_cases h4 : c ≤ 90
        · omega
        · rw [if_pos h3, if_neg h4]; simp; omega
      · omega
  · rw [if_neg h1]
    by_cases h3 : c ≥ 65
    · by_cases h4 : c ≤ 90
      · rw [if_pos h3, if_pos h4]; simp; omega
      · rw [if_pos h3, if_neg h4]; simp; omega
    · rw [if_neg h3]; simp; omega

theorem nameL0_ev (s : ByteArray) (hs : s.size ≤ 100000) : ∀ d i : Nat, i + d = s.size → ∀ x : Bool,
    Ev (fun k => freshetref13_Name.l0 k s x (i : Int)) (if x && (s.data.toList.drop i).all bareB then s else ⟨(quoteL 34 s.data.toList).toArray⟩, 0) := by
  have hl : s.data.toList.length = s.size := (Lib.size_eq s).symm
  intro d
  induction d with
  | zero =>
    intro i hi x
    rw [List.drop_of_length_le (by omega), List.all_nil, Bool.and_true]
    cases x
    · have hq := quoted_ev s (by omega) 34
      refine Ev.step (f := fun k => (freshetref13_quoted.f k s 34).bind fun t => some (t, 0)) (fun k => ?_) (Ev.bind hq (Ev.now _))
      simp only [freshetref13_Name.l0]
      rw [if_neg (show ¬ (i : Int) < (s.size : Int) by omega), if_neg Bool.false_ne_true]
    · refine Ev.step (f := fun _ => some (s, 0)) (fun k => ?_) (Ev.now _)
      simp only [freshetref13_Name.l0]
      rw [if_neg (show ¬ (i : Int) < (s.size : Int) by omega), if_pos trivial]
  | succ d ih =>
    intro i hi x
    have hlt : i < s.size := by omega
    have hb := bt_at_nat s i hlt
    have hu := (s[i]).toNat_lt
    rw [get_lt hlt, List.all_cons]
    have hw : wrap64 ((i : Int) + 1) = ((i + 1 : Nat) : Int) := by rw [w64i (by omega) (by omega)]; omega
    have hdec : bareB s[i] = (isInn ((s[i]).toNat : Int) && !(decide (65 ≤ (s[i]).toNat) && decide ((s[i]).toNat ≤ 90))) := rfl
    -- what the round hands on
    have step : ∀ y : Bool, (y && (s.data.toList.drop (i + 1)).all bareB) = (x && (bareB s[i] && (s.data.toList.drop (i + 1)).all bareB)) → (∀ k, freshetref13_Name.l0 (k + 1) s x (i : Int) = freshetref13_Name.l0 k s y ((i + 1 : Nat) : Int)) →
        Ev (fun k => freshetref13_Name.l0 k s x (i : Int)) (if x && (bareB s[i] && (s.data.toList.drop (i + 1)).all bareB) then s else ⟨(quoteL 34 s.data.toList).toArray⟩, 0) := by
      intro y h1 h2
      rw [← h1]
      exact Ev.step h2 (ih (i + 1) (by omega) y)
    have q1 : (i : Int) < (s.size : Int) := by omega
    have q2 : 0 ≤ (i : Int) := by omega
    cases hd : isDig ((s[i]).toNat : Int)
    · cases hle : isLet ((s[i]).toNat : Int)
      · have hbare : bareB s[i] = false := by rw [hdec]; simp [isInn, hd, hle]
        refine step false (by rw [hbare]; simp) (fun k => ?_)
        simp only [freshetref13_Name.l0]
        rw [if_pos q1, if_pos q2, hb, dig_eq, Option.bind_some, hd, if_neg Bool.false_ne_true, let_eq, Option.bind_some, hle, if_neg Bool.false_ne_true, hw]
      · by_cases h1 : 65 ≤ (s[i]).toNat
        · by_cases h2 : (s[i]).toNat ≤ 90
          · have hbare : bareB s[i] = false := by rw [hdec, decide_eq_true h1, decide_eq_true h2]; simp
            refine step false (by rw [hbare]; simp) (fun k => ?_)
            simp only [freshetref13_Name.l0]
            rw [if_pos q1, if_pos q2, hb, dig_eq, Option.bind_some, hd, if_neg Bool.false_ne_true, let_eq, Option.bind_some, hle, if_pos rfl, if_pos (show ((s[i]).toNat : Int) ≥ 65 by omega), if_pos (show ((s[i]).toNat : Int) ≤ 90 by omega), hw]
          · have hbare : bareB s[i] = true := by rw [hdec, decide_eq_false h2]; simp [isInn, hle]
            refine step x (by rw [hbare]; simp) (fun k => ?_)
            simp only [freshetref13_Name.l0]
            rw [if_pos q1, if_pos q2, hb, dig_eq, Option.bind_some, hd, if_neg Bool.false_ne_true, let_eq, Option.bind_some, hle, if_pos rfl, if_pos (show ((s[i]).toNat : Int) ≥ 65 by omega), if_neg (show ¬ ((s[i]).toNat : Int) ≤ 90 by omega), hw]
        · have hbare : bareB s[i] = true := by rw [hdec, decide_eq_false h1]; simp [isInn, hle]
          refine step x (by rw [hbare]; simp) (fun k => ?_)
          simp only [freshetref13_Name.l0]
          rw [if_pos q1, if_pos q2, hb, dig_eq, Option.bind_some, hd, if_neg Bool.false_ne_true, let_eq, Option.bind_some, hle, if_pos rfl, if_neg (show ¬ ((s[i]).toNat : Int) ≥ 65 by omega), hw]
    · have h65 : ¬ 65 ≤ (s[i]).toNat := by
        simp only [isDig, Bool.and_eq_true, decide_eq_true_eq] at hd; omega
      have hbare : bareB s[i] = true := by rw [hdec, decide_eq_false h65]; simp [isInn, hd]
      refine step x (by rw [hbare]; simp) (fun k => ?_)
      simp only [freshetref13_Name.l0]
      rw [if_pos q1, if_pos q2, hb, dig_eq, Option.bind_some, hd, if_pos rfl, if_neg (show ¬ ((s[i]).toNat : Int) ≥ 65 by omega), hw]

theorem rname_ev (s : ByteArray) (hs : s.size ≤ 32 ∨ nameP s.data.toList = false) (hz : s.size ≤ 140737488355328) (hn : Ev (fun k => freshetref13_IsName.f k s) (nameP s.data.toList)) : Ev (fun k => freshetref13_Name.f k s) (⟨(nameW s.data.toList).1.toArray⟩, (nameW s.data.toList).2) := by
  have hl : s.data.toList.length = s.size := (Lib.size_eq s).symm
  have hdat : (⟨s.data.toList.toArray⟩ : ByteArray) = s := rfl
  unfold freshetref13_Name.f
  cases hp : nameP s.data.toList
  · rw [hp] at hn
    have hw : nameW s.data.toList = ([], 23) := by unfold nameW; rw [hp]; rfl
    rw [hw]
    exact Ev.bind hn (Ev.congr (fun k => by rw [if_neg Bool.false_ne_true]) (Ev.now _))
  · rw [hp] at hn
    have hs32 : s.size ≤ 32 := by
      rcases hs with hs | hs
      · exact hs
      · rw [hp] at hs; cases hs
    have h1 : 0 < s.size := by
      simp only [nameP, Bool.and_eq_true, decide_eq_true_eq] at hp; omega
    have hb := bt_at_nat s 0 h1
    rw [show ((0 : Nat) : Int) = 0 from rfl] at hb
    have hg := get_lt h1
    rw [List.drop_zero] at hg
    have hbp : bareP s.data.toList = (!isDig ((s[0]).toNat : Int) && s.data.toList.all bareB && !isWd (Lib.toUpperA s.data.toList)) := by
      have aux : ∀ (l : List UInt8) c t, l = c :: t → bareP l = (!isDig ((c.toNat : Nat) : Int) && l.all bareB && !isWd (Lib.toUpperA l)) := by rintro _ c t rfl; rfl
      exact aux _ _ _ hg
    have hw : nameW s.data.toList = (if bareP s.data.toList then s.data.toList else quoteL 34 s.data.toList, 0) := by unfold nameW; rw [hp]; rfl
    have hres : ∀ y : Bool, (y && s.data.toList.all bareB) = bareP s.data.toList → Ev (fun k => freshetref13_Name.j0 k s y) (⟨(nameW s.data.toList).1.toArray⟩, (nameW s.data.toList).2) := by
      intro y hy
      have := nameL0_ev s (by omega) s.size 0 (by omega) y
      rw [List.drop_zero, hy] at this
      have he : ((if bareP s.data.toList then s else ⟨(quoteL 34 s.data.toList).toArray⟩ : ByteArray), (0 : Int)) = (⟨(nameW s.data.toList).1.toArray⟩, (nameW s.data.toList).2) := by
        rw [hw]; cases bareP s.data.toList <;> rfl
      rw [← he]
      refine Ev.step (fun k => ?_) this
      simp only [freshetref13_Name.j0]; rfl
    refine Ev.bind hn (Ev.congr (fun k => by rw [if_pos rfl, if_pos (show 0 < (s.size : Int) by omega), hb, dig_eq, Option.bind_some]) ?_)
    cases hd : isDig ((s[0]).toNat : Int)
    · refine Ev.congr (fun k => by rw [if_neg Bool.false_ne_true]) ?_
      refine Ev.bind (cased_ev s (by omega)) ?_
      have hx : xrIsWord.f ⟨(Lib.toUpperA s.data.toList).toArray⟩ = some (isWd (Lib.toUpperA s.data.toList)) := by
        unfold xrIsWord.f
        rw [if_pos (by rw [Lib.size_eq]; simp [Lib.toUpperA]; omega), isRW_eq]
      refine Ev.congr (fun k => by rw [hx, Option.bind_some]) (hres _ ?_)
      rw [hbp, hd, Bool.not_false, Bool.true_and, Bool.and_comm]
    · refine Ev.congr (fun k => by rw [if_pos rfl]) (hres _ ?_)
      rw [hbp, hd]; rfl

end Go.Proofs.YtlaafpbhhnehgaaDoor
