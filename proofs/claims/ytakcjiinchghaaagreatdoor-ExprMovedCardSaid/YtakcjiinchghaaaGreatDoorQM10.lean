/- a part of the claim: what the card leans on, out of the texts EL2 (put together by wip/tools/shake.py). -/
import Derived.Test.YtakcjiinchghaaaGreatDoorQM8
import Derived.Test.YtakcjiinchghaaaGreatDoorQM9
section
namespace Go.Proofs.YtakcjiinchghaaaGreatDoor
set_option linter.unusedVariables false
set_option linter.unusedSimpArgs false
open Go.RowKit Go.Proofs.YtakcjiinchghaaaGreatDoorW.PrintWords Go.Proofs.YtakcjiinchghaaaGreatDoorW.PrintLast PRW PEMV
/-- the first places are fit for the wide row, and unlike -/
def OkTo (to_ : List Int) (i : Nat) : Prop := ∀ j : Nat, j < i → (0 ≤ rd to_ (j : Int) ∧ rd to_ (j : Int) ≤ 1000) ∧ ∀ k : Nat, k < j → rd to_ (k : Int) ≠ rd to_ (j : Int)
/-- the wide row, so many values being laid -/
def bigE (to_ : List Int) (r : List S29) : Nat → List S29
  | 0 => List.replicate 1001 z29
  | i + 1 => (bigE to_ r i).set (rd to_ (i : Int)).toNat (rd_T29 r (i : Int))
theorem big_len (to_ : List Int) (r : List S29) : ∀ i, (bigE to_ r i).length = 1001
  | 0 => List.length_replicate
  | i + 1 => by rw [bigE, List.length_set]; exact big_len to_ r i
theorem big_at {to_ : List Int} {r : List S29} : ∀ i, OkTo to_ i → ∀ j : Nat, j < i → rd_T29 (bigE to_ r i) (rd to_ (j : Int)) = rd_T29 r (j : Int)
  | 0, _, j, h => by omega
  | i + 1, ok, j, h => by
    rw [bigE]
    unfold rd_T29
    rw [List.getD_eq_getElem?_getD, List.getElem?_set]
    by_cases hj : j = i
    · subst hj
      rw [if_pos rfl, if_pos (by rw [big_len]; have := (ok j (by omega)).1; omega)]; rfl
    · have h1 := (ok i (by omega)).2 j (by omega)
      have h2 := (ok i (by omega)).1
      have h3 := (ok j (by omega)).1
      rw [if_neg (by omega), ← List.getD_eq_getElem?_getD]
      exact big_at i (fun a ha => ok a (by omega)) j (by omega)
theorem big_mem {to_ : List Int} {r : List S29} : ∀ i, i ≤ r.length → ∀ x ∈ bigE to_ r i, x = z29 ∨ x ∈ r
  | 0, _, x, h => .inl (List.eq_of_mem_replicate h)
  | i + 1, hi, x, h => by
    rw [bigE] at h
    rcases List.mem_or_eq_of_mem_set h with h | h
    · exact big_mem i (by omega) x h
    · exact .inr (h ▸ rd_mem r (i : Int) (by omega) (by omega))
theorem sound_z : soundV z29.f0 z29.f1 z29.f2 z29.f3 = true := by kernel_rfl
theorem soundL_iff {l : List S29} : soundL l = true ↔ l.length ≤ 1024 ∧ ∀ x ∈ l, soundV x.f0 x.f1 x.f2 x.f3 = true := by
  unfold soundL; simp
theorem rngL_big {to_ : List Int} {r : List S29} (i : Nat) (hi : i ≤ r.length) (h : rngL r = true) : rngL (bigE to_ r i) = true := by
  unfold rngL at *
  rw [List.all_eq_true] at *
  intro x hx
  rcases big_mem i hi x hx with rfl | hx
  · kernel_rfl
  · exact h x hx
theorem sound_big {to_ : List Int} {r : List S29} (hl : to_.length = r.length) (hr : r.length ≤ 1000) (ok : OkTo to_ r.length) : soundL (bigE to_ r r.length) = soundL r := by
  rw [Bool.eq_iff_iff, soundL_iff, soundL_iff, big_len]
  constructor
  · rintro ⟨_, h⟩
    refine ⟨by omega, fun x hx => ?_⟩
    obtain ⟨j, hj, rfl⟩ := List.mem_iff_getElem.1 hx
    have hb := (ok j hj).1
    have := h (rd_T29 (bigE to_ r r.length) (rd to_ (j : Int))) (rd_mem _ _ (by omega) (by rw [big_len]; omega))
    rw [big_at _ ok j hj, rd_getV r j hj] at this
    exact this
  · rintro ⟨_, h⟩
    refine ⟨by omega, fun x hx => ?_⟩
    rcases big_mem _ (Nat.le_refl _) x hx with rfl | hx
    · exact sound_z
    · exact h x hx
theorem takes_moved {to_ : List Int} {r : List S29} (hl : to_.length = r.length) (ok : OkTo to_ r.length) (d : S41) (h : ¬ takesE (r.length : Int) d < 0) : takesE 1001 (mvD to_ d) = takesE (r.length : Int) d ∧ (d.f0 = 2 → 0 ≤ d.f1 ∧ d.f1 < (r.length : Int)) := by
  by_cases h2 : d.f0 = 2
  · have hin : 0 ≤ d.f1 ∧ d.f1 < (r.length : Int) := by
      unfold takesE at h
      split at h
      · rename_i h3; rcases h3 with h3 | h3
        · omega
        · exact h3.2
      · split at h
        · rename_i h3; omega
        · split at h <;> omega
    refine ⟨?_, fun _ => hin⟩
    obtain ⟨j, hj⟩ : ∃ j : Nat, d.f1 = (j : Int) := ⟨d.f1.toNat, by omega⟩
    have hb := (ok j (by omega)).1
    have e1 : mvD to_ d = ⟨d.f0, rd to_ d.f1, d.f2⟩ := if_pos h2
    have t1 : takesE 1001 (mvD to_ d) = 0 := by
      rw [e1]; unfold takesE
      exact if_pos (.inr ⟨h2, by show 0 ≤ rd to_ d.f1; rw [hj]; omega, by show rd to_ d.f1 < 1001; rw [hj]; omega⟩)
    have t2 : takesE (r.length : Int) d = 0 := if_pos (.inr ⟨h2, hin⟩)
    rw [t1, t2]
  · rw [mvD_not to_ d h2]
    refine ⟨?_, fun h => absurd h h2⟩
    unfold takesE
    have e1 : ∀ w : Int, ((d.f0 = 1 ∧ soundV d.f2.f0 d.f2.f1 d.f2.f2 d.f2.f3 = true) ∨ (d.f0 = 2 ∧ 0 ≤ d.f1 ∧ d.f1 < w)) = (d.f0 = 1 ∧ soundV d.f2.f0 d.f2.f1 d.f2.f2 d.f2.f3 = true) := fun w => by simp [h2]
    simp only [e1]
/-- over other columns the same -/
theorem moved_e {e : List S41} {to_ : List Int} {r : List S29} (hl : to_.length = r.length) (hr : r.length ≤ 1000) (ok : OkTo to_ r.length) (hs : soundE e r.length = true) :
    moveF e to_ = 0 ∧ evalE (moveE e to_) (bigE to_ r r.length) = evalE e r := by
  have hs' := soundE_iff.1 hs
  have ht : ∀ d ∈ e, takesE 1001 (mvD to_ d) = takesE (r.length : Int) d ∧ (d.f0 = 2 → 0 ≤ d.f1 ∧ d.f1 < (r.length : Int)) := fun d hd => takes_moved hl ok d (mh_all hs'.2 d hd)
  have hok : okTo e to_ = true := by
    unfold okTo
    rw [List.all_eq_true]
    intro d hd
    simp only [Bool.or_eq_true, Bool.and_eq_true, decide_eq_true_eq]
    by_cases h2 : d.f0 = 2
    · have := (ht d hd).2 h2
      exact .inr ⟨this.1, by omega⟩
    · exact .inl h2
  have hF : moveF e to_ = 0 := by unfold moveF; rw [hok]; rfl
  have hE : moveE e to_ = e.map (mvD to_) := by unfold moveE; rw [hok]; rfl
  refine ⟨hF, ?_⟩
  rw [hE]
  cases hb : soundL r
  · rw [evalE_bad (.inl hb), evalE_bad (.inl (by rw [sound_big hl hr ok]; exact hb))]
  · have hm : soundE (e.map (mvD to_)) ((bigE to_ r r.length).length : Int) = true := by
      rw [big_len, soundE_iff, List.length_map]
      refine ⟨hs'.1, ?_⟩
      have := mh_congr (tk := takesE (r.length : Int)) (tk' := takesE 1001) (mvD to_) e 0 (fun d hd => (ht d hd).1)
      exact this.trans hs'.2
    rw [evalE_ok hb hs, evalE_ok (by rw [sound_big hl hr ok]; exact hb) hm, run_moved r _ to_ e [] (fun d hd h2 => ?_)]
    have := (ht d hd).2 h2
    obtain ⟨j, hj⟩ : ∃ j : Nat, d.f1 = (j : Int) := ⟨d.f1.toNat, by omega⟩
    rw [hj]
    exact big_at _ ok j (by omega)
theorem rd_memI (L : List Int) (c : Int) (h0 : 0 ≤ c) (h : c < L.length) : rd L c ∈ L := by
  unfold rd
  have hl : c.toNat < L.length := by omega
  simp [hl]
theorem rngD_moved {e : List S41} {to_ : List Int} (ht : ∀ x ∈ to_, I64 x) (h : rngD e = true) : rngD (moveE e to_) = true := by
  unfold moveE
  split
  · rename_i hok
    unfold rngD at *
    rw [List.all_eq_true] at *
    intro x hx
    obtain ⟨d, hd, rfl⟩ := List.mem_map.1 hx
    have h1 := h d hd
    by_cases h2 : d.f0 = 2
    · have e1 : mvD to_ d = ⟨d.f0, rd to_ d.f1, d.f2⟩ := if_pos h2
      rw [e1]
      unfold okTo at hok
      have h3 := List.all_eq_true.1 hok d hd
      simp only [Bool.or_eq_true, Bool.and_eq_true, decide_eq_true_eq] at h3 h1 ⊢
      rcases h3 with h3 | h3
      · exact absurd h2 h3
      · have h4 := ht (rd to_ d.f1) (rd_memI to_ d.f1 h3.1 h3.2)
        exact ⟨⟨h4.1, h4.2⟩, h1.2⟩
    · rw [mvD_not to_ d h2]; exact h1
  · rfl
theorem moved_ev (e : List S41) (r : List S29) (to_ : List Int) (re : rngD e = true) (hz : e.length ≤ 2513169434843) (rr : rngL r = true) (rt : ∀ x ∈ to_, I64 x) : Ev (fun k => freshetlaw05_ExprMoved.f k e r to_) true := by
  have J0 : Ev (fun k => freshetlaw05_ExprMoved.j0 k e r to_ true) true := by
    refine Ev.step (f := fun _ => some true) (fun k => ?_) (Ev.now _)
    rw [freshetlaw05_ExprMoved.j0, if_pos rfl]
  by_cases hl : ¬ (to_.length : Int) = (r.length : Int)
  · refine Ev.congr (fun k => ?_) J0
    unfold freshetlaw05_ExprMoved.f xAwake5.f
    simp only [Option.bind_some, if_true]
    rw [if_neg hl]
  replace hl : (to_.length : Int) = (r.length : Int) := Classical.not_not.1 hl
  by_cases hr : (r.length : Int) > 1000
  · refine Ev.congr (fun k => ?_) J0
    unfold freshetlaw05_ExprMoved.f xAwake5.f
    simp only [Option.bind_some, if_true]
    rw [if_pos hl, decide_eq_true hr]
  have hl' : to_.length = r.length := by omega
  have hr' : r.length ≤ 1000 := by omega
  -- the wide row is laid, and both are asked
  have L2 : OkTo to_ r.length → ∀ n i : Nat, i + n = r.length → Ev (fun k => freshetlaw05_ExprMoved.l2 k e r to_ (bigE to_ r i) (i : Int)) true := by
    intro ok n
    induction n with
    | zero =>
      intro i hi
      obtain rfl : i = r.length := by omega
      refine Ev.step (f := fun _ => some true) (fun k => ?_) (Ev.now _)
      rw [freshetlaw05_ExprMoved.l2, if_neg (by omega), show xMove.f e to_ = some (moveE e to_, moveF e to_) from if_pos hz, xEval_at re rr, xESound_at _ re]
      simp only [Option.bind_some]
      rw [xEval_at (rngD_moved rt re) (rngL_big _ (Nat.le_refl _) rr)]
      simp only [Option.bind_some]
      cases hs : soundE e r.length
      · rw [if_neg Bool.false_ne_true, evalE_bad (.inr hs)]; rfl
      · obtain ⟨m1, m2⟩ := moved_e hl' hr' ok hs
        rw [if_pos rfl, if_pos m1, m2, if_pos (by simp)]
        simp
    | succ n ih =>
      intro i hi
      have hb := (ok i (by omega)).1
      refine Ev.step (fun k => ?_) (ih (i + 1) (by omega))
      rw [freshetlaw05_ExprMoved.l2, if_pos (by omega), if_pos (by omega), if_pos (by omega), if_pos (by omega), if_pos (by rw [big_len]; omega)]
      have hw : wrap64 ((i : Int) + 1) = ((i + 1 : Nat) : Int) := by unfold wrap64; omega
      rw [hw]; rfl
  have L0 : ∀ n i : Nat, i + n = r.length → OkTo to_ i → Ev (fun k => freshetlaw05_ExprMoved.l0 k e r to_ (i : Int)) true := by
    intro n
    induction n with
    | zero =>
      intro i hi ok
      obtain rfl : i = r.length := by omega
      refine Ev.step (fun k => ?_) (L2 ok r.length 0 (by omega))
      rw [freshetlaw05_ExprMoved.l0, if_neg (by omega), if_pos (by omega)]; rfl
    | succ n ih =>
      intro i hi ok
      have J2t : Ev (fun k => freshetlaw05_ExprMoved.j2 k e r to_ (i : Int) true) true := by
        refine Ev.step (f := fun _ => some true) (fun k => ?_) (Ev.now _)
        rw [freshetlaw05_ExprMoved.j2, if_pos rfl]
      by_cases h0 : rd to_ (i : Int) < 0
      · refine Ev.step (fun k => ?_) J2t
        rw [freshetlaw05_ExprMoved.l0, if_pos (by omega), if_pos (by omega), if_pos h0]
      by_cases h1 : rd to_ (i : Int) > 1000
      · refine Ev.step (fun k => ?_) J2t
        rw [freshetlaw05_ExprMoved.l0, if_pos (by omega), if_pos (by omega), if_neg h0, decide_eq_true h1]
      have L1 : ∀ m j : Nat, j + m = i → (∀ a : Nat, a < j → rd to_ (a : Int) ≠ rd to_ (i : Int)) → Ev (fun k => freshetlaw05_ExprMoved.l1 k e r to_ (i : Int) (j : Int)) true := by
        intro m
        induction m with
        | zero =>
          intro j hj hne
          obtain rfl : j = i := by omega
          refine Ev.step (fun k => ?_) (ih (j + 1) (by omega) (fun a ha => ?_))
          · rw [freshetlaw05_ExprMoved.l1, if_neg (by omega)]
            have hw : wrap64 ((j : Int) + 1) = ((j + 1 : Nat) : Int) := by unfold wrap64; omega
            rw [hw]
          · by_cases haj : a = j
            · subst haj; exact ⟨⟨by omega, by omega⟩, hne⟩
            · exact ok a (by omega)
        | succ m ihm =>
          intro j hj hne
          by_cases hq : rd to_ (j : Int) = rd to_ (i : Int)
          · refine Ev.step (f := fun _ => some true) (fun k => ?_) (Ev.now _)
            rw [freshetlaw05_ExprMoved.l1, if_pos (by omega), if_pos (by omega), if_pos (by omega), if_pos (by omega), if_pos (by omega), if_pos hq]
          · refine Ev.step (fun k => ?_) (ihm (j + 1) (by omega) (fun a ha => ?_))
            · rw [freshetlaw05_ExprMoved.l1, if_pos (by omega), if_pos (by omega), if_pos (by omega), if_pos (by omega), if_pos (by omega), if_neg hq]
              have hw : wrap64 ((j : Int) + 1) = ((j + 1 : Nat) : Int) := by unfold wrap64; omega
              rw [hw]
            · by_cases haj : a = j
              · subst haj; exact hq
              · exact hne a (by omega)
      refine Ev.step (f := fun k => freshetlaw05_ExprMoved.j2 k e r to_ (i : Int) false) (fun k => ?_) (Ev.step (fun k => ?_) (L1 i 0 (by omega) (fun a ha => by omega)))
      · rw [freshetlaw05_ExprMoved.l0, if_pos (by omega), if_pos (by omega), if_neg h0, decide_eq_false h1]
      · rw [freshetlaw05_ExprMoved.j2, if_neg Bool.false_ne_true]; rfl
  refine Ev.congr (f := fun k => freshetlaw05_ExprMoved.j0 k e r to_ false) (fun k => ?_) (Ev.step (fun k => ?_) (L0 r.length 0 (by omega) (fun a ha => by omega)))
  · unfold freshetlaw05_ExprMoved.f xAwake5.f
    simp only [Option.bind_some, if_true]
    rw [if_pos hl, decide_eq_false hr]
  · rw [freshetlaw05_ExprMoved.j0, if_neg Bool.false_ne_true]; rfl
theorem walkExprMoved (w : World) (A0 : Option Addr) (c0 : Nat) (L0 : List S41) (hc0 : L0.length ≤ c0) (hr0 : Kd.C k41 w A0 L0.length L0) (hg0 : rngD L0 = true) (hz0 : L0.length ≤ 2513169434843)
    (A1 : Option Addr) (c1 : Nat) (L1 : List S29) (hc1 : L1.length ≤ c1) (hr1 : Kd.C k29 w A1 L1.length L1) (hg1 : rngL L1 = true)
    (A2 : Option Addr) (c2 : Nat) (L2 : List Int) (hc2 : L2.length ≤ c2) (hr2 : Kd.C (Kd.int .i64) w A2 L2.length L2) (hg2 : ∀ x ∈ L2, I64 x) (ht : ETab w) :
    Calls Tryz.prog 7 #[.slice A0 L0.length c0, .slice A1 L1.length c1, .slice A2 L2.length c2] w fun e w' => e = .returned (.bool true) ∧ Below w.heap.size w w' := by
  obtain ⟨k, hk⟩ := (moved_ev L0 L1 L2 hg0 hz0 hg1 hg2).rounds
  exact freshetlaw05_ExprMoved.calls k A0 c0 L0 A1 c1 L1 A2 c2 L2 true w hr0 hc0 hr1 hc1 hr2 hc2 ht hk
end Go.Proofs.YtakcjiinchghaaaGreatDoor
end
