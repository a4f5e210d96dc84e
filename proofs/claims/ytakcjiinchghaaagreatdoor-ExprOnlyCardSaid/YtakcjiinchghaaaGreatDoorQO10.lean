/- a part of the claim: what the card leans on, out of the texts EL3 (put together by wip/tools/shake.py). -/
import Derived.Test.YtakcjiinchghaaaGreatDoorQO8
import Derived.Test.YtakcjiinchghaaaGreatDoorQO9
section
namespace Go.Proofs.YtakcjiinchghaaaGreatDoor
set_option linter.unusedVariables false
set_option linter.unusedSimpArgs false
open Go.RowKit Go.Proofs.YtakcjiinchghaaaGreatDoorW.PrintWords Go.Proofs.YtakcjiinchghaaaGreatDoorW.PrintLast PRW PEON
theorem compact_up (zs : List Int) (hs : zs.Pairwise (· ≤ ·)) : ∀ m, m ≤ zs.length → (Lib.compactUpTo zs.toArray m).Pairwise (· < ·) ∧ ∀ x, x ∈ Lib.compactUpTo zs.toArray m ↔ ∃ j, j < m ∧ zs.toArray[j]! = x
  | 0, _ => by
    have h : Lib.compactUpTo zs.toArray 0 = [] := rfl
    rw [h]
    exact ⟨List.Pairwise.nil, fun x => ⟨fun hx => absurd hx List.not_mem_nil, fun ⟨j, hj, _⟩ => by omega⟩⟩
  | m + 1, hm => by
    obtain ⟨h1, h2⟩ := compact_up zs hs m (by omega)
    have le : ∀ i j : Nat, i ≤ j → j < zs.length → zs.toArray[i]! ≤ zs.toArray[j]! := fun i j hij hj => by
      rw [getElem!_pos zs.toArray i (by simp; omega), getElem!_pos zs.toArray j (by simp; omega), List.getElem_toArray, List.getElem_toArray]
      by_cases e : i = j
      · subst e; omega
      · exact List.pairwise_iff_getElem.1 hs i j (by omega) hj (by omega)
    rw [Lib.compactUpTo_succ]
    cases hk : Lib.keeps zs.toArray m
    · rw [if_neg Bool.false_ne_true, List.append_nil]
      refine ⟨h1, fun x => ?_⟩
      rw [h2]
      have hne : ¬ (m = 0 ∨ zs.toArray[m]! ≠ zs.toArray[m - 1]!) := by
        unfold Lib.keeps at hk; exact of_decide_eq_false hk
      constructor
      · rintro ⟨j, hj, e⟩; exact ⟨j, by omega, e⟩
      · rintro ⟨j, hj, e⟩
        by_cases hjm : j = m
        · subst hjm
          refine ⟨j - 1, by omega, ?_⟩
          rw [← e]
          exact (Classical.not_not.1 (fun h => hne (.inr h))).symm
        · exact ⟨j, by omega, e⟩
    · rw [if_pos rfl]
      have hkp : m = 0 ∨ zs.toArray[m]! ≠ zs.toArray[m - 1]! := by unfold Lib.keeps at hk; exact of_decide_eq_true hk
      refine ⟨List.pairwise_append.2 ⟨h1, List.pairwise_singleton _ _, fun a ha b hb => ?_⟩, fun x => ?_⟩
      · obtain ⟨j, hj, rfl⟩ := (h2 a).1 ha
        obtain rfl := List.mem_singleton.1 hb
        have l1 := le j (m - 1) (by omega) (by omega)
        have l2 := le (m - 1) m (by omega) (by omega)
        rcases hkp with h | h
        · omega
        · omega
      · rw [List.mem_append, h2, List.mem_singleton]
        constructor
        · rintro (⟨j, hj, e⟩ | e)
          · exact ⟨j, by omega, e⟩
          · exact ⟨m, by omega, e.symm⟩
        · rintro ⟨j, hj, e⟩
          by_cases hjm : j = m
          · subst hjm; exact .inr e.symm
          · exact .inl ⟨j, by omega, e⟩
theorem cols_sorted (e : List S41) : ((namesE e).mergeSort fun x y => decide (x ≤ y)).Pairwise (· ≤ ·) := by
  have := List.pairwise_mergeSort (le := fun x y : Int => decide (x ≤ y)) (fun a b c h1 h2 => by simp at h1 h2 ⊢; omega) (fun a b => by simp; omega) (namesE e)
  exact this.imp fun h => by simpa using h
theorem cols_lt (e : List S41) : (colsE e).Pairwise (· < ·) := (compact_up _ (cols_sorted e) _ (Nat.le_refl _)).1
theorem cols_mem (e : List S41) (x : Int) : x ∈ colsE e ↔ ∃ d ∈ e, d.f0 = 2 ∧ d.f1 = x := by
  have h := (compact_up _ (cols_sorted e) _ (Nat.le_refl _)).2 x
  have h0 : x ∈ colsE e ↔ x ∈ namesE e := by
    unfold colsE Lib.compact
    rw [h, ← List.mem_mergeSort (l := namesE e) (le := fun x y : Int => decide (x ≤ y))]
    constructor
    · rintro ⟨j, hj, e⟩
      rw [getElem!_pos _ j (by simpa using hj), List.getElem_toArray] at e
      exact e ▸ List.getElem_mem _
    · intro hx
      obtain ⟨j, hj, e⟩ := List.mem_iff_getElem.1 hx
      exact ⟨j, hj, by rw [getElem!_pos _ j (by simpa using hj), List.getElem_toArray]; exact e⟩
  rw [h0]
  unfold namesE
  simp only [List.mem_map, List.mem_filter, decide_eq_true_eq]
  constructor
  · rintro ⟨d, ⟨h1, h2⟩, h3⟩; exact ⟨d, h1, h2, h3⟩
  · rintro ⟨d, h1, h2, h3⟩; exact ⟨d, ⟨h1, h2⟩, h3⟩
/-- the row with another value wherever no column is named -/
def otherE (cs : List Int) (r : List S29) (x : S29) (i : Nat) : List S29 := (List.range i).map fun j : Nat => if (j : Int) ∈ cs then rd_T29 r (j : Int) else x
theorem other_len (cs : List Int) (r : List S29) (x : S29) (i : Nat) : (otherE cs r x i).length = i := by unfold otherE; simp
theorem other_succ (cs : List Int) (r : List S29) (x : S29) (i : Nat) : otherE cs r x (i + 1) = otherE cs r x i ++ [if (i : Int) ∈ cs then rd_T29 r (i : Int) else x] := by
  unfold otherE; rw [List.range_succ, List.map_append]; rfl
theorem other_mem {cs : List Int} {r : List S29} {x y : S29} (h : y ∈ otherE cs r x r.length) : y ∈ r ∨ y = x := by
  unfold otherE at h
  obtain ⟨j, hj, rfl⟩ := List.mem_map.1 h
  split
  · exact .inl (rd_mem r (j : Int) (by omega) (by have := List.mem_range.1 hj; omega))
  · exact .inr rfl
theorem other_at {cs : List Int} {r : List S29} {x : S29} (j : Nat) (hj : j < r.length) : rd_T29 (otherE cs r x r.length) (j : Int) = if (j : Int) ∈ cs then rd_T29 r (j : Int) else x := by
  rw [rd_getV _ j (by rw [other_len]; exact hj)]
  unfold otherE
  simp
theorem sound_iff {l : List S29} : soundL l = true ↔ l.length ≤ 1024 ∧ ∀ x ∈ l, soundV x.f0 x.f1 x.f2 x.f3 = true := by
  unfold soundL; simp
/-- on the named columns alone -/
theorem only_e {e : List S41} {r : List S29} {x : S29} (hx : soundV x.f0 x.f1 x.f2 x.f3 = true) (hs : soundE e r.length = true)
    (hu : ∀ j : Nat, j < r.length → (j : Int) ∉ colsE e → soundV (rd_T29 r (j : Int)).f0 (rd_T29 r (j : Int)).f1 (rd_T29 r (j : Int)).f2 (rd_T29 r (j : Int)).f3 = true) :
    evalE e (otherE (colsE e) r x r.length) = evalE e r := by
  have hsl : soundL (otherE (colsE e) r x r.length) = soundL r := by
    rw [Bool.eq_iff_iff, sound_iff, sound_iff, other_len]
    constructor
    · rintro ⟨h1, h2⟩
      refine ⟨h1, fun y hy => ?_⟩
      obtain ⟨j, hj, rfl⟩ := List.mem_iff_getElem.1 hy
      rw [← rd_getV r j hj]
      by_cases hc : (j : Int) ∈ colsE e
      · have := h2 (rd_T29 (otherE (colsE e) r x r.length) (j : Int)) (rd_mem _ _ (by omega) (by rw [other_len]; omega))
        rw [other_at j hj, if_pos hc] at this
        exact this
      · exact hu j hj hc
    · rintro ⟨h1, h2⟩
      refine ⟨h1, fun y hy => ?_⟩
      rcases other_mem hy with h | rfl
      · exact h2 y h
      · exact hx
  cases hb : soundL r
  · rw [evalE_bad (.inl hb), evalE_bad (.inl (by rw [hsl]; exact hb))]
  · rw [evalE_ok hb hs, evalE_ok (by rw [hsl]; exact hb) (by rw [other_len]; exact hs), run_congr (otherE (colsE e) r x r.length) r e [] (fun d hd h2 => ?_)]
    have hin : 0 ≤ d.f1 ∧ d.f1 < (r.length : Int) := by
      have h := mh_all (soundE_iff.1 hs).2 d hd
      unfold takesE at h
      split at h
      · rename_i h3; rcases h3 with h3 | h3
        · omega
        · exact h3.2
      · split at h
        · rename_i h3; omega
        · split at h <;> omega
    obtain ⟨j, hj⟩ : ∃ j : Nat, d.f1 = (j : Int) := ⟨d.f1.toNat, by omega⟩
    rw [hj, other_at j (by omega), if_pos ((cols_mem e _).2 ⟨d, hd, h2, hj⟩)]
theorem rd_getI (L : List Int) (i : Nat) (h : i < L.length) : rd L (i : Int) = L[i] := by unfold rd; simp [h]
theorem xSound_at {x : S29} (h : rngV x = true) : xSound.f x.f0 x.f1 x.f2 x.f3 = some (soundV x.f0 x.f1 x.f2 x.f3) := by
  have := ((rngV_iff x).1 h).1
  exact if_pos this
theorem wnn (i : Nat) (h : i < 9223372036854775807) : wrap64 ((i : Int) + 1) = ((i + 1 : Nat) : Int) := by unfold wrap64; omega
theorem only_ev (e : List S41) (r : List S29) (x : S29) (re : rngD e = true) (hz : e.length ≤ 2513169434843) (rr : rngL r = true) (hzr : r.length ≤ 3518437208780) (rx : rngV x = true) :
    Ev (fun k => freshetlaw05_ExprOnly.f k e r x.f0 x.f1 x.f2 x.f3) true := by
  have hcl := cols_lt e
  have hlt : ∀ i j : Nat, i < j → (hj : j < (colsE e).length) → rd (colsE e) (i : Int) < rd (colsE e) (j : Int) := fun i j hij hj => by
    rw [rd_getI _ i (by omega), rd_getI _ j hj]
    exact List.pairwise_iff_getElem.1 hcl i j (by omega) hj hij
  have hcz : (colsE e).length ≤ 2513169434843 := by
    unfold colsE
    exact Nat.le_trans (compact_len _) (by rw [List.length_mergeSort]; exact Nat.le_trans (names_len e) hz)
  have J1t : Ev (fun k => freshetlaw05_ExprOnly.j1 k e r (colsE e) true x.f0 x.f1 x.f2 x.f3) true := by
    refine Ev.step (f := fun _ => some true) (fun k => ?_) (Ev.now _)
    rw [freshetlaw05_ExprOnly.j1, if_pos rfl]
  -- the row is gone through
  have L1 : soundE e r.length = true → soundV x.f0 x.f1 x.f2 x.f3 = true → ∀ n i at_ : Nat, i + n = r.length → at_ ≤ (colsE e).length →
      (∀ j : Nat, j < at_ → rd (colsE e) (j : Int) < (i : Int)) → (∀ j : Nat, at_ ≤ j → j < (colsE e).length → (i : Int) ≤ rd (colsE e) (j : Int)) →
      (∀ j : Nat, j < i → (j : Int) ∉ colsE e → soundV (rd_T29 r (j : Int)).f0 (rd_T29 r (j : Int)).f1 (rd_T29 r (j : Int)).f2 (rd_T29 r (j : Int)).f3 = true) →
      Ev (fun k => freshetlaw05_ExprOnly.l1 k e r (colsE e) (evalE e r).e (otherE (colsE e) r x i) (at_ : Int) (i : Int) x.f0 x.f1 x.f2 x.f3 (evalE e r).v.f0 (evalE e r).v.f1 (evalE e r).v.f2 (evalE e r).v.f3) true := by
    intro hs hx n
    induction n with
    | zero =>
      intro i at_ hi ha h1 h2 hu
      obtain rfl : i = r.length := by omega
      have hat : at_ = (colsE e).length := by
        by_cases hlt : at_ < (colsE e).length
        · have h3 := h2 at_ (Nat.le_refl _) hlt
          rw [rd_getI _ _ hlt] at h3
          obtain ⟨d, hd, h4, h5⟩ := (cols_mem e _).1 (List.getElem_mem hlt)
          have h := mh_all (soundE_iff.1 hs).2 d hd
          unfold takesE at h
          split at h
          · rename_i h6; rcases h6 with h6 | h6 <;> omega
          · split at h
            · rename_i h6; omega
            · split at h <;> omega
        · omega
      have hro : rngL (otherE (colsE e) r x r.length) = true := by
        unfold rngL at *
        rw [List.all_eq_true] at *
        intro y hy
        rcases other_mem hy with h | rfl
        · exact rr y h
        · exact rx
      refine Ev.step (f := fun _ => some true) (fun k => ?_) (Ev.now _)
      rw [freshetlaw05_ExprOnly.l1, if_neg (by omega), xEval_at re hro, only_e hx hs hu]
      simp only [Option.bind_some]
      rw [if_pos (by omega), if_pos (by simp)]
      simp
    | succ n ih =>
      intro i at_ hi ha h1 h2 hu
      by_cases hc : at_ < (colsE e).length ∧ rd (colsE e) (at_ : Int) = (i : Int)
      · have hin : (i : Int) ∈ colsE e := by rw [← hc.2, rd_getI _ _ hc.1]; exact List.getElem_mem _
        have hnext := ih (i + 1) (at_ + 1) (by omega) (by omega) (fun j hj => by
          by_cases hja : j = at_
          · subst hja; omega
          · have := h1 j (by omega); omega) (fun j hj hjl => by have := hlt at_ j (by omega) hjl; omega) (fun j hj hnc => by
          by_cases hji : j = i
          · subst hji; exact absurd hin hnc
          · exact hu j (by omega) hnc)
        refine Ev.step (f := fun k => freshetlaw05_ExprOnly.j3 k e r (colsE e) (evalE e r).e (otherE (colsE e) r x i) (at_ : Int) (i : Int) true x.f0 x.f1 x.f2 x.f3 (evalE e r).v.f0 (evalE e r).v.f1 (evalE e r).v.f2 (evalE e r).v.f3) (fun k => ?_) (Ev.step (fun k => ?_) hnext)
        · rw [freshetlaw05_ExprOnly.l1, if_pos (by omega), if_pos (by omega), if_pos (by omega), beq_iff_eq.2 hc.2]
        · rw [freshetlaw05_ExprOnly.j3, if_pos rfl, if_pos (by omega), if_pos (by omega), if_pos (by rw [other_len]; omega), wnn i (by omega), wnn at_ (by omega), other_succ, if_pos hin]
      · have hout : (i : Int) ∉ colsE e := fun hin => by
          obtain ⟨j, hj, he⟩ := List.mem_iff_getElem.1 hin
          rw [← rd_getI _ j hj] at he
          by_cases hja : j < at_
          · have := h1 j hja; omega
          · have h3 := h2 at_ (Nat.le_refl _) (by omega)
            by_cases hje : j = at_
            · subst hje; exact hc ⟨hj, he⟩
            · have := hlt at_ j (by omega) hj; omega
        have hj3 : Ev (fun k => freshetlaw05_ExprOnly.j3 k e r (colsE e) (evalE e r).e (otherE (colsE e) r x i) (at_ : Int) (i : Int) false x.f0 x.f1 x.f2 x.f3 (evalE e r).v.f0 (evalE e r).v.f1 (evalE e r).v.f2 (evalE e r).v.f3) true := by
          have hrx : rngV (rd_T29 r (i : Int)) = true := List.all_eq_true.1 rr _ (rd_mem r (i : Int) (by omega) (by omega))
          cases hsx : soundV (rd_T29 r (i : Int)).f0 (rd_T29 r (i : Int)).f1 (rd_T29 r (i : Int)).f2 (rd_T29 r (i : Int)).f3
          · refine Ev.step (f := fun _ => some true) (fun k => ?_) (Ev.now _)
            rw [freshetlaw05_ExprOnly.j3, if_neg Bool.false_ne_true, if_pos (by omega), if_pos (by omega), xSound_at hrx, hsx]
            simp only [Option.bind_some]
            rw [if_neg Bool.false_ne_true, evalE_bad (.inl (by
              cases hb : soundL r
              · rfl
              · have := (sound_iff.1 hb).2 _ (rd_mem r (i : Int) (by omega) (by omega))
                rw [hsx] at this; cases this))]
            rfl
          · have hnext := ih (i + 1) at_ (by omega) ha (fun j hj => by have := h1 j hj; omega) (fun j hj hjl => by
              have h3 := h2 j hj hjl
              by_cases hje : rd (colsE e) (j : Int) = (i : Int)
              · rw [rd_getI _ j hjl] at hje
                exact absurd (hje ▸ List.getElem_mem hjl) hout
              · omega) (fun j hj hnc => by
              by_cases hji : j = i
              · subst hji; exact hsx
              · exact hu j (by omega) hnc)
            refine Ev.step (fun k => ?_) hnext
            rw [freshetlaw05_ExprOnly.j3, if_neg Bool.false_ne_true, if_pos (by omega), if_pos (by omega), xSound_at hrx, hsx]
            simp only [Option.bind_some]
            rw [if_pos trivial, if_pos (by rw [other_len]; omega), wnn i (by omega), other_succ, if_neg hout]
        refine Ev.step (fun k => ?_) hj3
        rw [freshetlaw05_ExprOnly.l1, if_pos (by omega)]
        by_cases hal : at_ < (colsE e).length
        · rw [if_pos (by omega), if_pos (by omega), beq_eq_false_iff_ne.2 (fun h => hc ⟨hal, h⟩)]
        · rw [if_neg (by omega)]
  have J1f : soundE e r.length = true → soundV x.f0 x.f1 x.f2 x.f3 = true → Ev (fun k => freshetlaw05_ExprOnly.j1 k e r (colsE e) false x.f0 x.f1 x.f2 x.f3) true := fun hs hx => by
    refine Ev.step (fun k => ?_) (L1 hs hx r.length 0 0 (by omega) (by omega) (fun j hj => by omega) (fun j _ hj => by
      rw [rd_getI _ _ hj]
      obtain ⟨d, hd, h4, h5⟩ := (cols_mem e _).1 (List.getElem_mem hj)
      have h := mh_all (soundE_iff.1 hs).2 d hd
      unfold takesE at h
      split at h
      · rename_i h6; rcases h6 with h6 | h6 <;> omega
      · split at h
        · rename_i h6; omega
        · split at h <;> omega) (fun j hj => by omega))
    rw [freshetlaw05_ExprOnly.j1, if_neg Bool.false_ne_true, xEval_at re rr]
    simp only [Option.bind_some]
    rw [if_pos (by omega), if_pos (by omega)]; rfl
  have fin : Ev (fun k => (xSound.f x.f0 x.f1 x.f2 x.f3).bind fun t108 => (if t108 = true then ((xESound.f e (r.length : Int)).bind fun t109 => (freshetlaw05_ExprOnly.j1 k e r (colsE e) (!t109) x.f0 x.f1 x.f2 x.f3)) else (freshetlaw05_ExprOnly.j1 k e r (colsE e) true x.f0 x.f1 x.f2 x.f3))) true := by
    cases hx : soundV x.f0 x.f1 x.f2 x.f3
    · refine Ev.congr (fun k => ?_) J1t
      rw [xSound_at rx, hx]; rfl
    · cases hs : soundE e r.length
      · refine Ev.congr (fun k => ?_) J1t
        rw [xSound_at rx, hx, xESound_at _ re, hs]; rfl
      · refine Ev.congr (fun k => ?_) (J1f hs hx)
        rw [xSound_at rx, hx, xESound_at _ re, hs]; rfl
  have L0 : ∀ n i : Nat, i + n = (colsE e).length → 1 ≤ i → Ev (fun k => freshetlaw05_ExprOnly.l0 k e r (colsE e) (i : Int) x.f0 x.f1 x.f2 x.f3) true := by
    intro n
    induction n with
    | zero =>
      intro i hi h1
      refine Ev.step (fun k => ?_) fin
      rw [freshetlaw05_ExprOnly.l0, if_neg (by omega)]
    | succ n ih =>
      intro i hi h1
      have hw : wrap64 ((i : Int) - 1) = ((i - 1 : Nat) : Int) := by unfold wrap64; omega
      have h3 := hlt (i - 1) i (by omega) (by omega)
      refine Ev.step (fun k => ?_) (ih (i + 1) (by omega) (by omega))
      rw [freshetlaw05_ExprOnly.l0, if_pos (by omega), hw, if_pos (by omega), if_pos (by omega), if_pos (by omega), if_neg (by omega), wnn i (by omega)]
  have L0' : Ev (fun k => freshetlaw05_ExprOnly.l0 k e r (colsE e) 1 x.f0 x.f1 x.f2 x.f3) true := by
    by_cases h0 : (colsE e).length = 0
    · refine Ev.step (fun k => ?_) fin
      rw [freshetlaw05_ExprOnly.l0, if_neg (by omega)]
    · exact L0 ((colsE e).length - 1) 1 (by omega) (by omega)
  refine Ev.congr (fun k => ?_) L0'
  unfold freshetlaw05_ExprOnly.f xAwake5.f
  simp only [Option.bind_some, if_true]
  rw [show xCols.f e = some (colsE e) from if_pos hz]; rfl
theorem walkExprOnly (w : World) (A0 : Option Addr) (c0 : Nat) (L0 : List S41) (hc0 : L0.length ≤ c0) (hr0 : Kd.C k41 w A0 L0.length L0) (hg0 : rngD L0 = true) (hz0 : L0.length ≤ 2513169434843)
    (A1 : Option Addr) (c1 : Nat) (L1 : List S29) (hc1 : L1.length ≤ c1) (hr1 : Kd.C k29 w A1 L1.length L1) (hg1 : rngL L1 = true) (hz1 : L1.length ≤ 3518437208780)
    (x : S29) (hx : rngV x = true) (ht : ETab w) :
    Calls Tryz.prog 8 #[.slice A0 L0.length c0, .slice A1 L1.length c1, .agg #[.int .i64 x.f0, .int .i64 x.f1, .int .u64 x.f2, .string x.f3]] w fun e w' => e = .returned (.bool true) ∧ Below w.heap.size w w' := by
  obtain ⟨k, hk⟩ := (only_ev L0 L1 x hg0 hz0 hg1 hz1 hx).rounds
  exact freshetlaw05_ExprOnly.calls k A0 c0 L0 A1 c1 L1 x.f0 x.f1 x.f2 x.f3 true w hr0 hc0 hr1 hc1 ht hk
end Go.Proofs.YtakcjiinchghaaaGreatDoor
end
