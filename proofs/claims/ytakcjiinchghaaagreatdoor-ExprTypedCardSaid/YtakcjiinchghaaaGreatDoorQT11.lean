/- a part of the claim: what the card leans on, out of the texts EL4 (put together by wip/tools/shake.py). -/
import Derived.Test.YtakcjiinchghaaaGreatDoorQT6
import Derived.Test.YtakcjiinchghaaaGreatDoorQT9
import Derived.Test.YtakcjiinchghaaaGreatDoorQT10
section
namespace Go.Proofs.YtakcjiinchghaaaGreatDoor
set_option linter.unusedVariables false
set_option linter.unusedSimpArgs false
open Go.RowKit Go.Proofs.YtakcjiinchghaaaGreatDoorW.PrintWords Go.Proofs.YtakcjiinchghaaaGreatDoorW.PrintLast PRW PETY
theorem fits_ev (r : List S29) (cols : List S57) (hl : cols.length ≤ 1024) (rr : rngL r = true) : Ev (fun k => freshetlaw05_fits.f k r cols) (fitB r cols) := by
  by_cases hrl : ¬ r.length = cols.length
  · have : fitB r cols = false := by unfold fitB; rw [decide_eq_false hrl]; rfl
    rw [this]
    refine Ev.congr (fun k => ?_) (Ev.now _)
    rw [freshetlaw05_fits.f, if_neg (by omega)]
  replace hrl : r.length = cols.length := Classical.not_not.1 hrl
  have main : ∀ n i : Nat, i + n = r.length → (∀ j : Nat, j < i → okFit (rd_T29 r (j : Int)) (rd_T57 cols (j : Int)) = true) → Ev (fun k => freshetlaw05_fits.l0 k r cols (i : Int)) (fitB r cols) := by
    intro n
    induction n with
    | zero =>
      intro i hi h
      have : fitB r cols = true := by
        unfold fitB
        rw [decide_eq_true hrl, Bool.true_and, List.all_eq_true]
        intro j hj
        exact h j (by have := List.mem_range.1 hj; omega)
      rw [this]
      refine Ev.step (f := fun _ => some true) (fun k => ?_) (Ev.now _)
      rw [freshetlaw05_fits.l0, if_neg (by omega)]
    | succ n ih =>
      intro i hi h
      have hrx : rngV (rd_T29 r (i : Int)) = true := List.all_eq_true.1 rr _ (rd_mem r (i : Int) (by omega) (by omega))
      have hxs : xSound.f (rd_T29 r (i : Int)).f0 (rd_T29 r (i : Int)).f1 (rd_T29 r (i : Int)).f2 (rd_T29 r (i : Int)).f3 = some (soundV (rd_T29 r (i : Int)).f0 (rd_T29 r (i : Int)).f1 (rd_T29 r (i : Int)).f2 (rd_T29 r (i : Int)).f3) := if_pos ((rngV_iff _).1 hrx).1
      have hw : wrap64 ((i : Int) + 1) = ((i + 1 : Nat) : Int) := by unfold wrap64; omega
      have top : ∀ k, freshetlaw05_fits.l0 (k + 1) r cols (i : Int) = if okFit (rd_T29 r (i : Int)) (rd_T57 cols (i : Int)) = true then freshetlaw05_fits.l0 k r cols ((i + 1 : Nat) : Int) else some false := fun k => by
        rw [freshetlaw05_fits.l0, if_pos (by omega), if_pos (by omega), hxs]
        simp only [Option.bind_some]
        rw [if_pos (show (i : Int) < (cols.length : Int) by omega), hw]
        unfold okFit
        generalize soundV _ _ _ _ = s
        generalize (rd_T29 r (i : Int)).f0 = x0
        generalize (rd_T57 cols (i : Int)).f1 = y1
        generalize (rd_T57 cols (i : Int)).f2 = y2
        cases s
        · simp
        · by_cases h1 : x0 = y1
          · simp [h1]
          · by_cases h2 : x0 = 0
            · cases y2 <;> simp [h1, h2] <;> (try intro h3; exact absurd (h2.trans h3) h1)
            · simp [h1, h2]
      cases ho : okFit (rd_T29 r (i : Int)) (rd_T57 cols (i : Int))
      · rw [fitB_no (by omega) ho]
        refine Ev.step (f := fun _ => some false) (fun k => ?_) (Ev.now _)
        rw [top, ho, if_neg Bool.false_ne_true]
      · refine Ev.step (fun k => ?_) (ih (i + 1) (by omega) (fun j hj => by
          by_cases hji : j = i
          · subst hji; exact ho
          · exact h j (by omega)))
        rw [top, ho, if_pos rfl]
  refine Ev.congr (fun k => ?_) (main r.length 0 (by omega) (fun j hj => by omega))
  rw [freshetlaw05_fits.f, if_pos (by omega)]; rfl
theorem typed_ev (e : List S41) (cols : List S57) (r : List S29) (re : rngD e = true) (rr : rngL r = true) : Ev (fun k => freshetlaw05_ExprTyped.f k e cols r) true := by
  have hT : xType.f e cols = some (typeE e cols) := if_pos re
  have hS : xSafe.f e cols = some (safeE e cols) := if_pos re
  by_cases hb : (typedE e cols).bad = true
  · have hty : typeE e cols = (0, false, false) := by unfold typeE; rw [if_pos hb]
    have hsf : safeE e cols = false := by unfold safeE; rw [hb]; rfl
    refine Ev.congr (f := fun _ => some true) (fun k => ?_) (Ev.now _)
    unfold freshetlaw05_ExprTyped.f xAwake5.f
    simp only [Option.bind_some, if_true]
    rw [hT, hS, hty, hsf]; rfl
  replace hb : (typedE e cols).bad = false := by simpa using hb
  have hty : typeE e cols = ((typedE e cols).of_, (typedE e cols).null, true) := by unfold typeE; rw [hb]; rfl
  have hsf : safeE e cols = !(typedE e cols).risk := by unfold safeE; rw [hb]; rfl
  have J0t : Ev (fun k => freshetlaw05_ExprTyped.j0 k e r (typedE e cols).of_ (typedE e cols).null (safeE e cols) true) true := by
    refine Ev.step (f := fun _ => some true) (fun k => ?_) (Ev.now _)
    rw [freshetlaw05_ExprTyped.j0, if_pos rfl]
  by_cases hl : (cols.length : Int) > 1024
  · refine Ev.congr (fun k => ?_) J0t
    unfold freshetlaw05_ExprTyped.f xAwake5.f
    simp only [Option.bind_some, if_true]
    rw [hT, hS, hty]
    simp only [Option.bind_some, if_true]
    rw [if_pos hl]
  refine Ev.congr (f := fun k => (freshetlaw05_fits.f k r cols).bind fun t => freshetlaw05_ExprTyped.j0 k e r (typedE e cols).of_ (typedE e cols).null (safeE e cols) (!t)) (fun k => ?_) (Ev.bind (fits_ev r cols (by omega) rr) ?_)
  · unfold freshetlaw05_ExprTyped.f xAwake5.f
    simp only [Option.bind_some, if_true]
    rw [hT, hS, hty]
    simp only [Option.bind_some, if_true]
    rw [if_neg hl]
  cases hf : fitB r cols
  · exact J0t
  refine Ev.step (f := fun _ => some true) (fun k => ?_) (Ev.now _)
  show freshetlaw05_ExprTyped.j0 (k + 1) e r (typedE e cols).of_ (typedE e cols).null (safeE e cols) false = _
  rw [freshetlaw05_ExprTyped.j0, if_neg Bool.false_ne_true, xEval_at re rr]
  simp only [Option.bind_some]
  rcases typed_kept e cols r (by omega) (fitB_fits hf) (rngL_I rr) (fun d hd => (rngD_at re d hd).2.1) hb with ⟨h1, h2⟩ | ⟨h1, h2⟩
  · rw [if_pos h1]
    obtain ⟨v1, v2, v3, v4⟩ := h2
    have v1' : soundV (evalE e r).v.f0 (evalE e r).v.f1 (evalE e r).v.f2 (evalE e r).v.f3 = true := v1
    have v3' : (evalE e r).v.f0 = 0 → (typedE e cols).null = true := v3
    have v4' : (evalE e r).v.f0 ≠ 0 → (evalE e r).v.f0 = (typedE e cols).of_ := v4
    rw [show xSound.f (evalE e r).v.f0 (evalE e r).v.f1 (evalE e r).v.f2 (evalE e r).v.f3 = some (soundV (evalE e r).v.f0 (evalE e r).v.f1 (evalE e r).v.f2 (evalE e r).v.f3) from if_pos v2, v1']
    simp only [Option.bind_some, if_true]
    by_cases h0 : (evalE e r).v.f0 = 0
    · rw [if_pos h0, if_pos h0, v3' h0]; simp
    · rw [if_pos (v4' h0), if_neg h0]
  · rw [if_neg (by omega), hsf, h2]
    simp only [Bool.not_true, Bool.false_eq_true, if_false]
    rcases h1 with h1 | h1 | h1 <;> rw [h1] <;> simp
theorem walkExprTyped (w : World) (A0 : Option Addr) (c0 : Nat) (L0 : List S41) (hc0 : L0.length ≤ c0) (hr0 : Kd.C k41 w A0 L0.length L0) (hg0 : rngD L0 = true) (hz0 : L0.length ≤ 2513169434843)
    (A1 : Option Addr) (c1 : Nat) (L1 : List S57) (hc1 : L1.length ≤ c1) (hr1 : Kd.C k57 w A1 L1.length L1) (hg1 : ∀ x ∈ L1, I64 x.f1)
    (A2 : Option Addr) (c2 : Nat) (L2 : List S29) (hc2 : L2.length ≤ c2) (hr2 : Kd.C k29 w A2 L2.length L2) (hg2 : rngL L2 = true) (ht : ETab w) :
    Calls Tryz.prog 6 #[.slice A0 L0.length c0, .slice A1 L1.length c1, .slice A2 L2.length c2] w fun e w' => e = .returned (.bool true) ∧ Below w.heap.size w w' := by
  obtain ⟨k, hk⟩ := (typed_ev L0 L1 L2 hg0 hg2).rounds
  exact freshetlaw05_ExprTyped.calls k A0 c0 L0 A1 c1 L1 A2 c2 L2 true w hr0 hc0 hr1 hc1 hr2 hc2 ht hk
end Go.Proofs.YtakcjiinchghaaaGreatDoor
end
