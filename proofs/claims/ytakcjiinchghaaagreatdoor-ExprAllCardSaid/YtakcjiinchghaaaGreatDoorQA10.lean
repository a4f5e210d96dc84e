/- a part of the claim: what the card leans on, out of the texts EL1 (put together by wip/tools/shake.py). -/
import Derived.Test.YtakcjiinchghaaaGreatDoorQA8
import Derived.Test.YtakcjiinchghaaaGreatDoorQA9
section
namespace Go.Proofs.YtakcjiinchghaaaGreatDoor
set_option linter.unusedVariables false
set_option linter.unusedSimpArgs false
open Go.RowKit Go.Proofs.YtakcjiinchghaaaGreatDoorW.PrintWords Go.Proofs.YtakcjiinchghaaaGreatDoorW.PrintLast PRW PEAL
/-- put together by a step of two, the lesser error is the whole's -/
theorem all_e {a b : List S41} {r : List S29} (ha : soundE a r.length = true) (hb : soundE b r.length = true) (hl : a.length ≤ 400) (hm : b.length ≤ 400) (c : Int) (h0 : 10 ≤ c) (h1 : c ≤ 24) :
    soundE (a ++ b ++ [⟨c, 0, ⟨0, 0, 0, ⟨#[]⟩⟩⟩]) r.length = true ∧ (leastE (evalE a r).e (evalE b r).e ≠ 0 → (evalE (a ++ b ++ [⟨c, 0, ⟨0, 0, 0, ⟨#[]⟩⟩⟩]) r).e = leastE (evalE a r).e (evalE b r).e) := by
  have hs := sound_both (d := (⟨c, 0, ⟨0, 0, 0, ⟨#[]⟩⟩⟩ : S41)) ha hb hl hm ⟨h0, h1⟩
  refine ⟨hs, fun hn => ?_⟩
  cases hr : soundL r
  · rw [evalE_bad (.inl hr), evalE_bad (.inl hr), evalE_bad (.inl hr)]; rfl
  · rw [evalE_ok hr ha, evalE_ok hr hb] at hn ⊢
    rw [evalE_ok hr hs, run_both (d := (⟨c, 0, ⟨0, 0, 0, ⟨#[]⟩⟩⟩ : S41)) r ha hb h0]
    show (twoC _ _ _).e = _
    unfold twoC
    rw [if_pos hn]
theorem all_ev (a b : List S41) (r : List S29) (ra : rngD a = true) (rb : rngD b = true) (rr : rngL r = true) : Ev (fun k => freshetlaw05_ExprAll.f k a b r) true := by
  have J0 : Ev (fun k => freshetlaw05_ExprAll.j0 k a b r true) true := by
    refine Ev.step (f := fun _ => some true) (fun k => ?_) (Ev.now _)
    rw [freshetlaw05_ExprAll.j0, if_pos rfl]
  by_cases la : (a.length : Int) > 400
  · refine Ev.congr (fun k => ?_) J0
    unfold freshetlaw05_ExprAll.f xAwake5.f
    simp only [Option.bind_some, if_true]
    rw [if_pos la]
  by_cases lb : (b.length : Int) > 400
  · refine Ev.congr (fun k => ?_) J0
    unfold freshetlaw05_ExprAll.f xAwake5.f
    simp only [Option.bind_some, if_true]
    rw [if_neg la, if_pos lb]
  cases ha : soundE a r.length
  · refine Ev.congr (fun k => ?_) J0
    unfold freshetlaw05_ExprAll.f xAwake5.f
    simp only [Option.bind_some, if_true]
    rw [if_neg la, if_neg lb, xESound_at _ ra, ha]; rfl
  cases hb : soundE b r.length
  · refine Ev.congr (fun k => ?_) J0
    unfold freshetlaw05_ExprAll.f xAwake5.f
    simp only [Option.bind_some, if_true]
    rw [if_neg la, if_neg lb, xESound_at _ ra, ha, xESound_at _ rb, hb]; rfl
  obtain ⟨W, hW⟩ : ∃ W, leastE (evalE a r).e (evalE b r).e = W := ⟨_, rfl⟩
  have loop : ∀ n : Nat, n ≤ 15 → Ev (fun k => freshetlaw05_ExprAll.l0 k a b r W (25 - (n : Int))) true := by
    intro n
    induction n with
    | zero =>
      intro _
      refine Ev.step (f := fun _ => some true) (fun k => ?_) (Ev.now _)
      rw [freshetlaw05_ExprAll.l0, if_neg (by omega)]
    | succ n ih =>
      intro hn
      have hc0 : 10 ≤ 25 - ((n + 1 : Nat) : Int) := by omega
      have hc1 : 25 - ((n + 1 : Nat) : Int) ≤ 24 := by omega
      have hnext : wrap64 (25 - ((n + 1 : Nat) : Int) + 1) = 25 - (n : Int) := by unfold wrap64; omega
      generalize 25 - ((n + 1 : Nat) : Int) = c at *
      obtain ⟨s1, s2⟩ := all_e ha hb (by omega) (by omega) c hc0 hc1
      have hy : rngD (a ++ b ++ [(⟨c, 0, ⟨0, 0, 0, ⟨#[]⟩⟩⟩ : S41)]) = true := rngD_app (rngD_app ra rb) (by kernel_rfl)
      have hlen : wrap64 (wrap64 ((a.length : Int) + (b.length : Int)) + 1) = (a.length : Int) + (b.length : Int) + 1 := by unfold wrap64; omega
      refine Ev.step (f := fun k => freshetlaw05_ExprAll.l0 k a b r W (25 - (n : Int))) (fun k => ?_) (ih (by omega))
      rw [freshetlaw05_ExprAll.l0, if_pos hc1, hlen, if_pos (by omega), if_pos (by omega)]
      simp only [Option.bind_some, List.nil_append]
      rw [if_pos (by first | omega | (simp; omega)), if_pos (by first | omega | (simp; omega)), if_pos (by first | omega | (simp; omega)), xEval_at hy rr, xESound_at _ hy, s1, hnext]
      simp only [Option.bind_some, if_true]
      by_cases hw : W = 0
      · rw [if_pos hw]
      · rw [if_neg hw, if_pos (by rw [← hW] at hw ⊢; exact s2 hw)]
  have J2 : ∀ V, V = W → Ev (fun k => freshetlaw05_ExprAll.j2 k a b r V) true := fun V hV => by
    subst hV
    refine Ev.step (fun k => ?_) (loop 15 (by omega))
    rw [freshetlaw05_ExprAll.j2]; rfl
  have J1 : ∀ B, (if B = true then (evalE b r).e else (evalE a r).e) = W → Ev (fun k => freshetlaw05_ExprAll.j1 k a b r (evalE b r).e (evalE a r).e B) true := fun B hB => by
    refine Ev.step (fun k => ?_) (J2 _ hB)
    rw [freshetlaw05_ExprAll.j1]
    cases B <;> rfl
  refine Ev.congr (f := fun k => freshetlaw05_ExprAll.j0 k a b r false) (fun k => ?_) ?_
  · unfold freshetlaw05_ExprAll.f xAwake5.f
    simp only [Option.bind_some, if_true]
    rw [if_neg la, if_neg lb, xESound_at _ ra, ha, xESound_at _ rb, hb]; rfl
  by_cases h1 : (evalE a r).e = 0
  · refine Ev.step (fun k => ?_) (J1 true (by rw [← hW]; unfold leastE; rw [if_pos rfl, if_pos (.inl h1), h1]; omega))
    rw [freshetlaw05_ExprAll.j0, if_neg Bool.false_ne_true, xEval_at ra rr, xEval_at rb rr]
    simp only [Option.bind_some]
    rw [if_pos h1]
  by_cases h2 : (evalE b r).e = 0
  · refine Ev.step (fun k => ?_) (J1 false (by rw [← hW]; unfold leastE; rw [if_neg Bool.false_ne_true, if_pos (.inr h2), h2]; omega))
    rw [freshetlaw05_ExprAll.j0, if_neg Bool.false_ne_true, xEval_at ra rr, xEval_at rb rr]
    simp only [Option.bind_some]
    rw [if_neg h1, if_pos h2]
  refine Ev.step (fun k => ?_) (J1 (decide ((evalE b r).e < (evalE a r).e)) (by
    rw [← hW]; unfold leastE; rw [if_neg (show ¬ ((evalE a r).e = 0 ∨ (evalE b r).e = 0) by omega)]
    by_cases h3 : (evalE b r).e < (evalE a r).e
    · rw [decide_eq_true h3, if_pos rfl]; omega
    · rw [decide_eq_false h3, if_neg Bool.false_ne_true]; omega))
  rw [freshetlaw05_ExprAll.j0, if_neg Bool.false_ne_true, xEval_at ra rr, xEval_at rb rr]
  simp only [Option.bind_some]
  rw [if_neg h1, if_neg h2]
theorem walkExprAll (w : World) (A0 : Option Addr) (c0 : Nat) (L0 : List S41) (hc0 : L0.length ≤ c0) (hr0 : Kd.C k41 w A0 L0.length L0) (hg0 : rngD L0 = true) (hz0 : L0.length ≤ 2513169434843)
    (A1 : Option Addr) (c1 : Nat) (L1 : List S41) (hc1 : L1.length ≤ c1) (hr1 : Kd.C k41 w A1 L1.length L1) (hg1 : rngD L1 = true) (hz1 : L1.length ≤ 2513169434843)
    (A2 : Option Addr) (c2 : Nat) (L2 : List S29) (hc2 : L2.length ≤ c2) (hr2 : Kd.C k29 w A2 L2.length L2) (hg2 : rngL L2 = true) (ht : ETab w) :
    Calls Tryz.prog 9 #[.slice A0 L0.length c0, .slice A1 L1.length c1, .slice A2 L2.length c2] w fun e w' => e = .returned (.bool true) ∧ Below w.heap.size w w' := by
  obtain ⟨k, hk⟩ := (all_ev L0 L1 L2 hg0 hg1 hg2).rounds
  exact freshetlaw05_ExprAll.calls k A0 c0 L0 A1 c1 L1 A2 c2 L2 true w hr0 hc0 hr1 hc1 hr2 hc2 ht hk
end Go.Proofs.YtakcjiinchghaaaGreatDoor
end
