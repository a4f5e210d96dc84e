/- a part of the claim: what the card leans on, out of the texts E6, EK4, EK5, EM1, EM2, ES1, VR4m, XE6, EC1, EC2, EL3a, ERC, XE3, EA1, EA2, EA3, ERC2, ERM (put together by wip/tools/shake.py). -/
import Derived.Test.YtakcjiinchghaaaGreatDoorQV1
import Derived.Test.YtakcjiinchghaaaGreatDoorQV2
import Derived.Test.YtakcjiinchghaaaGreatDoorQV4
import Derived.Test.YtakcjiinchghaaaGreatDoorQV5
import Derived.Test.YtakcjiinchghaaaGreatDoorQV6
import Derived.Test.YtakcjiinchghaaaGreatDoorQV7
import Derived.RegionTactic
import Derived.BigRegion
import Derived.Laws.Externs
import Derived.Laws.BitsLemmas
import Derived.Lib.SliceRun
import Derived.Sort.OwnSortedInts
section
namespace Go.Proofs.YtakcjiinchghaaaGreatDoor
set_option linter.unusedVariables false
set_option linter.unusedSimpArgs false
open Go.RowKit Go.Proofs.YtakcjiinchghaaaGreatDoorW.PrintWords Go.Proofs.YtakcjiinchghaaaGreatDoorW.PrintLast PRW
theorem takes_ev (w : Int) (d : S41) (hd : I64 d.f2.f1) : Ev (fun k => expr_takes.f k d.f0 d.f1 d.f2.f0 d.f2.f1 d.f2.f2 d.f2.f3 w) (takesE w d) := by
  have j3 : ∀ b : Bool, Ev (fun k => expr_takes.j3 k b d.f0 d.f1 d.f2.f0 d.f2.f1 d.f2.f2 d.f2.f3) (if b = true then 1 else if 10 ≤ d.f0 ∧ d.f0 ≤ 24 then 2 else -1) := fun b => by
    refine Ev.step (f := fun _ => some _) (fun k => ?_) (Ev.now _)
    rw [expr_takes.j3]
    cases b
    · rw [if_neg Bool.false_ne_true, if_neg Bool.false_ne_true]
      by_cases h1 : d.f0 ≥ 10
      · by_cases h2 : d.f0 ≤ 24
        · rw [if_pos h1, if_pos h2, if_pos ⟨h1, h2⟩]
        · rw [if_pos h1, if_neg h2, if_neg (fun h => h2 h.2)]
      · rw [if_neg h1, if_neg (fun h => h1 h.1)]
    · rw [if_pos rfl, if_pos rfl]
  have j2 : ∀ b : Bool, Ev (fun k => expr_takes.j2 k b d.f0 d.f1 d.f2.f0 d.f2.f1 d.f2.f2 d.f2.f3) (if b = true ∨ (d.f0 = 6 ∧ 1 ≤ d.f1 ∧ d.f1 ≤ 4) then 1 else if 10 ≤ d.f0 ∧ d.f0 ≤ 24 then 2 else -1) := fun b => by
    cases b
    · have h0 := j3 (decide (d.f0 = 6 ∧ 1 ≤ d.f1 ∧ d.f1 ≤ 4))
      simp only [decide_eq_true_eq] at h0
      simp only [Bool.false_eq_true, false_or]
      refine Ev.step (fun k => ?_) h0
      rw [expr_takes.j2, if_neg Bool.false_ne_true]
      by_cases h1 : d.f0 = 6
      · by_cases h2 : d.f1 ≥ 1
        · rw [if_pos h1, if_pos h2]
          have : decide (d.f1 ≤ 4) = decide (d.f0 = 6 ∧ 1 ≤ d.f1 ∧ d.f1 ≤ 4) := decide_eq_decide.2 ⟨fun h => ⟨h1, h2, h⟩, fun h => h.2.2⟩
          rw [this]
        · rw [if_pos h1, if_neg h2, decide_eq_false (fun h => h2 h.2.1)]
      · rw [if_neg h1, decide_eq_false (fun h => h1 h.1)]
    · have h0 := j3 true
      rw [if_pos rfl] at h0
      rw [if_pos (.inl rfl)]
      refine Ev.step (fun k => ?_) h0
      rw [expr_takes.j2, if_pos rfl]
  have j1 : ∀ b : Bool, Ev (fun k => expr_takes.j1 k b d.f0 d.f1 d.f2.f0 d.f2.f1 d.f2.f2 d.f2.f3) (if b = true then 0 else if (3 ≤ d.f0 ∧ d.f0 ≤ 5) ∨ (d.f0 = 6 ∧ 1 ≤ d.f1 ∧ d.f1 ≤ 4) then 1 else if 10 ≤ d.f0 ∧ d.f0 ≤ 24 then 2 else -1) := fun b => by
    cases b
    · have h0 := j2 (decide (3 ≤ d.f0 ∧ d.f0 ≤ 5))
      simp only [decide_eq_true_eq] at h0
      rw [if_neg Bool.false_ne_true]
      refine Ev.step (fun k => ?_) h0
      rw [expr_takes.j1, if_neg Bool.false_ne_true]
      by_cases h1 : d.f0 ≥ 3
      · rw [if_pos h1]
        have : decide (d.f0 ≤ 5) = decide (3 ≤ d.f0 ∧ d.f0 ≤ 5) := decide_eq_decide.2 ⟨fun h => ⟨h1, h⟩, fun h => h.2⟩
        rw [this]
      · rw [if_neg h1, decide_eq_false (fun h => h1 h.1)]
    · rw [if_pos rfl]
      refine Ev.step (f := fun _ => some 0) (fun k => ?_) (Ev.now _)
      rw [expr_takes.j1, if_pos rfl]
  have j0 : ∀ b : Bool, Ev (fun k => expr_takes.j0 k w b d.f0 d.f1 d.f2.f0 d.f2.f1 d.f2.f2 d.f2.f3) (if b = true ∨ (d.f0 = 2 ∧ 0 ≤ d.f1 ∧ d.f1 < w) then 0 else if (3 ≤ d.f0 ∧ d.f0 ≤ 5) ∨ (d.f0 = 6 ∧ 1 ≤ d.f1 ∧ d.f1 ≤ 4) then 1 else if 10 ≤ d.f0 ∧ d.f0 ≤ 24 then 2 else -1) := fun b => by
    cases b
    · have h0 := j1 (decide (d.f0 = 2 ∧ 0 ≤ d.f1 ∧ d.f1 < w))
      simp only [decide_eq_true_eq] at h0
      simp only [Bool.false_eq_true, false_or]
      refine Ev.step (fun k => ?_) h0
      rw [expr_takes.j0, if_neg Bool.false_ne_true]
      by_cases h1 : d.f0 = 2
      · by_cases h2 : d.f1 ≥ 0
        · rw [if_pos h1, if_pos h2]
          have : decide (d.f1 < w) = decide (d.f0 = 2 ∧ 0 ≤ d.f1 ∧ d.f1 < w) := decide_eq_decide.2 ⟨fun h => ⟨h1, h2, h⟩, fun h => h.2.2⟩
          rw [this]
        · rw [if_pos h1, if_neg h2, decide_eq_false (fun h => h2 h.2.1)]
      · rw [if_neg h1, decide_eq_false (fun h => h1 h.1)]
    · have h0 := j1 true
      rw [if_pos rfl] at h0
      rw [if_pos (.inl rfl)]
      refine Ev.step (fun k => ?_) h0
      rw [expr_takes.j0, if_pos rfl]
  unfold takesE
  by_cases h1 : d.f0 = 1
  · have h0 := j0 (soundV d.f2.f0 d.f2.f1 d.f2.f2 d.f2.f3)
    have e1 : ((d.f0 = 1 ∧ soundV d.f2.f0 d.f2.f1 d.f2.f2 d.f2.f3 = true) ∨ (d.f0 = 2 ∧ 0 ≤ d.f1 ∧ d.f1 < w)) = (soundV d.f2.f0 d.f2.f1 d.f2.f2 d.f2.f3 = true ∨ (d.f0 = 2 ∧ 0 ≤ d.f1 ∧ d.f1 < w)) := by simp [h1]
    simp only [e1]
    refine Ev.congr (fun k => ?_) h0
    rw [expr_takes.f, if_pos h1, xSound.f, if_pos (show -9223372036854775808 ≤ d.f2.f1 ∧ d.f2.f1 ≤ 9223372036854775807 from hd)]; rfl
  · have h0 := j0 false
    have e1 : ((d.f0 = 1 ∧ soundV d.f2.f0 d.f2.f1 d.f2.f2 d.f2.f3 = true) ∨ (d.f0 = 2 ∧ 0 ≤ d.f1 ∧ d.f1 < w)) = (false = true ∨ (d.f0 = 2 ∧ 0 ≤ d.f1 ∧ d.f1 < w)) := by simp [h1]
    simp only [e1]
    exact Ev.congr (fun k => by rw [expr_takes.f, if_neg h1]) h0
theorem w64n {n : Int} (h0 : -9223372036854775808 ≤ n) (h1 : n ≤ 9223372036854775807) : wrap64 n = n := by unfold wrap64; omega
theorem esound_ev (e : List S41) (w : Int) (hd : ∀ d ∈ e, I64 d.f2.f1) : Ev (fun k => expr_Sound.f k e w) (soundE e w) := by
  unfold soundE
  by_cases hl : (e.length : Int) > 4000
  · rw [decide_eq_false (show ¬ e.length ≤ 4000 by omega), Bool.false_and]
    exact Ev.congr (fun k => by rw [expr_Sound.f, if_pos hl]) (Ev.now _)
  · rw [decide_eq_true (show e.length ≤ 4000 by omega), Bool.true_and]
    have main : ∀ n i : Nat, i + n = e.length → ∀ h : Int, 0 ≤ h → h ≤ (i : Int) → Ev (fun k => expr_Sound.l0 k w h e (e.length : Int) (i : Int)) (decide (mh (takesE w) (e.drop i) h = some 1)) := by
      intro n
      induction n with
      | zero =>
        intro i hi h h0 h1
        rw [List.drop_of_length_le (by omega), mh]
        refine Ev.step (f := fun _ => some _) (fun k => ?_) (Ev.now _)
        rw [expr_Sound.l0, if_neg (by omega)]
        congr 1
        rw [Bool.eq_iff_iff]; simp
      | succ n ih =>
        intro i hi h h0 h1
        have hlt : i < e.length := by omega
        have hrd : rd_T41 e (i : Int) = e[i] := by unfold rd_T41; simp [hlt]
        have htk := takes_ev w e[i] (hd _ (List.getElem_mem hlt))
        have ok := takes_ok w e[i]
        rw [List.drop_eq_getElem_cons hlt, mh]
        have top : ∀ k, expr_Sound.l0 (k + 1) w h e (e.length : Int) (i : Int) = ((expr_takes.f k e[i].f0 e[i].f1 e[i].f2.f0 e[i].f2.f1 e[i].f2.f2 e[i].f2.f3 w).bind fun t105 => (if t105 < 0 then (some false) else (if t105 > h then (some false) else (expr_Sound.l0 k w (wrap64 (h + (wrap64 (1 - t105)))) e (e.length : Int) (wrap64 ((i : Int) + 1)))))) := fun k => by
          rw [expr_Sound.l0, if_pos (by omega), if_pos (by omega), if_pos (by omega), hrd]
        refine Ev.step top (Ev.bind htk ?_)
        generalize takesE w e[i] = q at *
        by_cases c1 : q < 0
        · rw [if_pos (.inl c1), show decide ((none : Option Int) = some 1) = false from rfl]
          exact Ev.congr (fun k => if_pos c1) (Ev.now _)
        by_cases c2 : h < q
        · rw [if_pos (.inr c2), show decide ((none : Option Int) = some 1) = false from rfl]
          exact Ev.congr (fun k => by rw [if_neg c1, if_pos (show q > h from c2)]) (Ev.now _)
        rw [if_neg (by omega)]
        have hq : q ≤ 2 := by omega
        refine Ev.congr (fun k => ?_) (ih (i + 1) (by omega) (h + 1 - q) (by omega) (by omega))
        rw [if_neg c1, if_neg (by omega), w64n (n := 1 - q) (by omega) (by omega), w64n (n := h + (1 - q)) (by omega) (by omega), w64n (n := (i : Int) + 1) (by omega) (by omega), show h + (1 - q) = h + 1 - q by omega]; rfl
    have h := main e.length 0 (by omega) 0 (by omega) (by omega)
    rw [List.drop_zero] at h
    exact Ev.congr (fun k => by rw [expr_Sound.f, if_neg hl]; rfl) h
theorem esound_c (A : Option Addr) (c : Nat) (e : List S41) (w : Int) (W : World) (hC : Kd.C k41 W A e.length e) (hc : e.length ≤ c) (hd : ∀ d ∈ e, I64 d.f2.f1) :
    Calls Tryz.prog 13 #[.slice A e.length c, .int .i64 w] W fun en w' => en = .returned (.bool (soundE e w)) ∧ Below W.heap.size W w' := by
  obtain ⟨k, hk⟩ := esound_ev e w hd
  exact expr_Sound.calls k A c e w _ W hC hc (hk k (Nat.le_refl _))
set_option maxRecDepth 100000 in
set_option maxHeartbeats 8000000 in
theorem eval_c (A : Option Addr) (c : Nat) (e : List S41) (A' : Option Addr) (c' : Nat) (r : List S29) (w : World) (hC : Kd.C k41 w A e.length e) (hc : e.length ≤ c) (hC' : Kd.C k29 w A' r.length r) (ht : Tab w)
    (hd : ∀ d ∈ e, I64 d.f2.f1) (hr : ∀ x ∈ r, I64 x.f1) :
    Calls Tryz.prog 11 #[.slice A e.length c, .slice A' r.length c'] w fun en w' => en = .returned (.tuple #[.agg #[.int .i64 (evalE e r).v.f0, .int .i64 (evalE e r).v.f1, .int .u64 (evalE e r).v.f2, .string (evalE e r).v.f3], .int .i64 (evalE e r).e]) ∧ Below w.heap.size w w' := by
  have RS := hidF (fun W (hb : Below w.heap.size w W) => rowSound_c A' c' r W (Kd.C_below hC' hb) hr)
  have ES := hidF (fun W (hb : Below w.heap.size w W) => esound_c A c e (r.length : Int) W (Kd.C_below hC hb) hc hd)
  cases s1 : soundL r
  · have hE : evalE e r = ⟨zV, 1⟩ := by unfold evalE; rw [s1]; rfl
    rw [hE]
    rw [s1] at RS
    clear hC hC' hd hr ht hc s1 hE
    go_enter Tryz.func11, Tryz.ntmps11
    go_wp2_with (first | (go_at_call 30; (fail_if_success (have := w1)); ((with_reducible refine (RS.out _ (by repeat (first | (with_reducible exact Below.refl _ _) | (with_reducible refine below_al ?_ _) | (with_reducible refine below_drewN ?_ _) | (with_reducible refine Below.drew ?_) | (with_reducible refine below_via (by assumption) ?_) | (with_reducible refine below_sc ?_ ?_ _; · (first | (simp; done) | (simp; omega) | omega))))).mono ?_); rintro e w1 ⟨rfl, hb1⟩; (try (replace hb1 := below_undrew hb1)); (try (replace hb1 := below_undrewN hb1)); obtain ⟨hc1, hf1⟩ := bcell hb1; (try (have hz0_1 : w.heap.size < w1.heap.size := (by have := hb1.size; (try simp at this); omega))); (try (have hz1_1 : w.heap.size + 1 < w1.heap.size := (by have := hb1.size; (try simp at this); omega))))) | (go_at_call 30; (fail_if_success (have := w2)); ((with_reducible refine (RS.out _ (by repeat (first | (with_reducible exact Below.refl _ _) | (with_reducible refine below_al ?_ _) | (with_reducible refine below_drewN ?_ _) | (with_reducible refine Below.drew ?_) | (with_reducible refine below_via (by assumption) ?_) | (with_reducible refine below_sc ?_ ?_ _; · (first | (simp; done) | (simp; omega) | omega))))).mono ?_); rintro e w2 ⟨rfl, hb2⟩; (try (replace hb2 := below_undrew hb2)); (try (replace hb2 := below_undrewN hb2)); obtain ⟨hc2, hf2⟩ := bcell hb2; (try (have hz0_2 : w.heap.size < w2.heap.size := (by have := hb2.size; (try simp at this); omega))); (try (have hz1_2 : w.heap.size + 1 < w2.heap.size := (by have := hb2.size; (try simp at this); omega))); (try (have hz_1_2 : w1.heap.size < w2.heap.size := (by have := hb2.size; (try simp at this); omega))))))
    exact bodyPost_ret (v := .tuple #[.agg #[.int .i64 0, .int .i64 0, .int .u64 0, .string ⟨#[]⟩], .int .i64 1]) (by simp [results, Tryz.results11, go_sem, *]) rfl ⟨rfl, (by repeat (first | (with_reducible exact Below.refl _ _) | (with_reducible refine below_al ?_ _) | (with_reducible refine below_drewN ?_ _) | (with_reducible refine Below.drew ?_) | (with_reducible refine below_via (by assumption) ?_) | (with_reducible refine below_sc ?_ ?_ _; · (first | (simp; done) | (simp; omega) | omega))))⟩
  · cases s2 : soundE e (r.length : Int)
    · have hE : evalE e r = ⟨zV, 1⟩ := by unfold evalE; rw [s1, s2]; rfl
      rw [hE]
      rw [s1] at RS
      rw [s2] at ES
      clear hC hC' hd hr ht hc s1 s2 hE
      go_enter Tryz.func11, Tryz.ntmps11
      go_wp2_with (first | (go_at_call 30; (fail_if_success (have := w1)); ((with_reducible refine (RS.out _ (by repeat (first | (with_reducible exact Below.refl _ _) | (with_reducible refine below_al ?_ _) | (with_reducible refine below_drewN ?_ _) | (with_reducible refine Below.drew ?_) | (with_reducible refine below_via (by assumption) ?_) | (with_reducible refine below_sc ?_ ?_ _; · (first | (simp; done) | (simp; omega) | omega))))).mono ?_); rintro e w1 ⟨rfl, hb1⟩; (try (replace hb1 := below_undrew hb1)); (try (replace hb1 := below_undrewN hb1)); obtain ⟨hc1, hf1⟩ := bcell hb1; (try (have hz0_1 : w.heap.size < w1.heap.size := (by have := hb1.size; (try simp at this); omega))); (try (have hz1_1 : w.heap.size + 1 < w1.heap.size := (by have := hb1.size; (try simp at this); omega))))) | (go_at_call 13; (fail_if_success (have := w1)); ((with_reducible refine (ES.out _ (by repeat (first | (with_reducible exact Below.refl _ _) | (with_reducible refine below_al ?_ _) | (with_reducible refine below_drewN ?_ _) | (with_reducible refine Below.drew ?_) | (with_reducible refine below_via (by assumption) ?_) | (with_reducible refine below_sc ?_ ?_ _; · (first | (simp; done) | (simp; omega) | omega))))).mono ?_); rintro e w1 ⟨rfl, hb1⟩; (try (replace hb1 := below_undrew hb1)); (try (replace hb1 := below_undrewN hb1)); obtain ⟨hc1, hf1⟩ := bcell hb1; (try (have hz0_1 : w.heap.size < w1.heap.size := (by have := hb1.size; (try simp at this); omega))); (try (have hz1_1 : w.heap.size + 1 < w1.heap.size := (by have := hb1.size; (try simp at this); omega))))) | (go_at_call 30; (fail_if_success (have := w2)); ((with_reducible refine (RS.out _ (by repeat (first | (with_reducible exact Below.refl _ _) | (with_reducible refine below_al ?_ _) | (with_reducible refine below_drewN ?_ _) | (with_reducible refine Below.drew ?_) | (with_reducible refine below_via (by assumption) ?_) | (with_reducible refine below_sc ?_ ?_ _; · (first | (simp; done) | (simp; omega) | omega))))).mono ?_); rintro e w2 ⟨rfl, hb2⟩; (try (replace hb2 := below_undrew hb2)); (try (replace hb2 := below_undrewN hb2)); obtain ⟨hc2, hf2⟩ := bcell hb2; (try (have hz0_2 : w.heap.size < w2.heap.size := (by have := hb2.size; (try simp at this); omega))); (try (have hz1_2 : w.heap.size + 1 < w2.heap.size := (by have := hb2.size; (try simp at this); omega))); (try (have hz_1_2 : w1.heap.size < w2.heap.size := (by have := hb2.size; (try simp at this); omega))))) | (go_at_call 13; (fail_if_success (have := w2)); ((with_reducible refine (ES.out _ (by repeat (first | (with_reducible exact Below.refl _ _) | (with_reducible refine below_al ?_ _) | (with_reducible refine below_drewN ?_ _) | (with_reducible refine Below.drew ?_) | (with_reducible refine below_via (by assumption) ?_) | (with_reducible refine below_sc ?_ ?_ _; · (first | (simp; done) | (simp; omega) | omega))))).mono ?_); rintro e w2 ⟨rfl, hb2⟩; (try (replace hb2 := below_undrew hb2)); (try (replace hb2 := below_undrewN hb2)); obtain ⟨hc2, hf2⟩ := bcell hb2; (try (have hz0_2 : w.heap.size < w2.heap.size := (by have := hb2.size; (try simp at this); omega))); (try (have hz1_2 : w.heap.size + 1 < w2.heap.size := (by have := hb2.size; (try simp at this); omega))); (try (have hz_1_2 : w1.heap.size < w2.heap.size := (by have := hb2.size; (try simp at this); omega))))))
      exact bodyPost_ret (v := .tuple #[.agg #[.int .i64 0, .int .i64 0, .int .u64 0, .string ⟨#[]⟩], .int .i64 1]) (by simp [results, Tryz.results11, go_sem, *]) rfl ⟨rfl, (by repeat (first | (with_reducible exact Below.refl _ _) | (with_reducible refine below_al ?_ _) | (with_reducible refine below_drewN ?_ _) | (with_reducible refine Below.drew ?_) | (with_reducible refine below_via (by assumption) ?_) | (with_reducible refine below_sc ?_ ?_ _; · (first | (simp; done) | (simp; omega) | omega))))⟩
    · obtain ⟨x, hx, _⟩ := runC_one r s2
      have hE : evalE e r = x := by unfold evalE; rw [s1, s2]; simp [hx]
      rw [hE]
      have RN : Hid (∀ rb W, Below w.heap.size w W → W.cell? ⟨rb, 0, none⟩ = some (.slice A' r.length c') → Calls Tryz.prog 37 #[.slice A e.length c, .func (.func 31) #[] #[.pointer (some ⟨rb, 0, none⟩)], .func (.func 32) #[] #[], .func (.func 34) #[] #[]] W fun en w' => en = .returned (.agg #[.int .i64 x.v.f0, .int .i64 x.v.f1, .int .u64 x.v.f2, .string x.v.f3, .int .i64 x.e]) ∧ Below W.heap.size W w') := hidF fun rb W hb hcell =>
        runC_c rb r A c e W (Kd.C_below hC hb) (soundE_iff.1 s2).1 (soundE_iff.1 s2).2
          ⟨fun W2 d hb2 h2 => eval1_c rb A' c' r d W2 ((hb2.cell (p := ⟨rb, 0, none⟩) (World.block_lt_of_cell? W _ hcell)).trans hcell) (Kd.C_below (Kd.C_below hC' hb) hb2) h2,
           fun W2 d a hb2 hg => eval2_c d a W2 ((ht.below hb).below hb2) hg,
           fun W2 d a b hg hg' => eval3_c d a b W2 hg hg'⟩ hr hd x hx
      rw [s1] at RS
      rw [s2] at ES
      obtain ⟨⟨x0, x1, x2, x3⟩, xe⟩ := x
      simp only at RN ⊢
      clear hC hC' hd hr ht hc s1 s2 hE hx
      go_enter Tryz.func11, Tryz.ntmps11
      go_wp2_with (first | (go_at_call 30; (fail_if_success (have := w1)); ((with_reducible refine (RS.out _ (by repeat (first | (with_reducible exact Below.refl _ _) | (with_reducible refine below_al ?_ _) | (with_reducible refine below_drewN ?_ _) | (with_reducible refine Below.drew ?_) | (with_reducible refine below_via (by assumption) ?_) | (with_reducible refine below_sc ?_ ?_ _; · (first | (simp; done) | (simp; omega) | omega))))).mono ?_); rintro e w1 ⟨rfl, hb1⟩; (try (replace hb1 := below_undrew hb1)); (try (replace hb1 := below_undrewN hb1)); obtain ⟨hc1, hf1⟩ := bcell hb1; (try (have hz0_1 : w.heap.size < w1.heap.size := (by have := hb1.size; (try simp at this); omega))); (try (have hz1_1 : w.heap.size + 1 < w1.heap.size := (by have := hb1.size; (try simp at this); omega))))) | (go_at_call 13; (fail_if_success (have := w1)); ((with_reducible refine (ES.out _ (by repeat (first | (with_reducible exact Below.refl _ _) | (with_reducible refine below_al ?_ _) | (with_reducible refine below_drewN ?_ _) | (with_reducible refine Below.drew ?_) | (with_reducible refine below_via (by assumption) ?_) | (with_reducible refine below_sc ?_ ?_ _; · (first | (simp; done) | (simp; omega) | omega))))).mono ?_); rintro e w1 ⟨rfl, hb1⟩; (try (replace hb1 := below_undrew hb1)); (try (replace hb1 := below_undrewN hb1)); obtain ⟨hc1, hf1⟩ := bcell hb1; (try (have hz0_1 : w.heap.size < w1.heap.size := (by have := hb1.size; (try simp at this); omega))); (try (have hz1_1 : w.heap.size + 1 < w1.heap.size := (by have := hb1.size; (try simp at this); omega))))) | (go_at_call 37; (fail_if_success (have := w1)); ((with_reducible refine (RN.out _ _ (by repeat (first | (with_reducible exact Below.refl _ _) | (with_reducible refine below_al ?_ _) | (with_reducible refine below_drewN ?_ _) | (with_reducible refine Below.drew ?_) | (with_reducible refine below_via (by assumption) ?_) | (with_reducible refine below_sc ?_ ?_ _; · (first | (simp; done) | (simp; omega) | omega)))) (by simp [go_sem, *])).mono ?_); rintro e w1 ⟨rfl, hb1⟩; (try (replace hb1 := below_undrew hb1)); (try (replace hb1 := below_undrewN hb1)); obtain ⟨hc1, hf1⟩ := bcell hb1; (try (have hz0_1 : w.heap.size < w1.heap.size := (by have := hb1.size; (try simp at this); omega))); (try (have hz1_1 : w.heap.size + 1 < w1.heap.size := (by have := hb1.size; (try simp at this); omega))))) | (go_at_call 30; (fail_if_success (have := w2)); ((with_reducible refine (RS.out _ (by repeat (first | (with_reducible exact Below.refl _ _) | (with_reducible refine below_al ?_ _) | (with_reducible refine below_drewN ?_ _) | (with_reducible refine Below.drew ?_) | (with_reducible refine below_via (by assumption) ?_) | (with_reducible refine below_sc ?_ ?_ _; · (first | (simp; done) | (simp; omega) | omega))))).mono ?_); rintro e w2 ⟨rfl, hb2⟩; (try (replace hb2 := below_undrew hb2)); (try (replace hb2 := below_undrewN hb2)); obtain ⟨hc2, hf2⟩ := bcell hb2; (try (have hz0_2 : w.heap.size < w2.heap.size := (by have := hb2.size; (try simp at this); omega))); (try (have hz1_2 : w.heap.size + 1 < w2.heap.size := (by have := hb2.size; (try simp at this); omega))); (try (have hz_1_2 : w1.heap.size < w2.heap.size := (by have := hb2.size; (try simp at this); omega))))) | (go_at_call 13; (fail_if_success (have := w2)); ((with_reducible refine (ES.out _ (by repeat (first | (with_reducible exact Below.refl _ _) | (with_reducible refine below_al ?_ _) | (with_reducible refine below_drewN ?_ _) | (with_reducible refine Below.drew ?_) | (with_reducible refine below_via (by assumption) ?_) | (with_reducible refine below_sc ?_ ?_ _; · (first | (simp; done) | (simp; omega) | omega))))).mono ?_); rintro e w2 ⟨rfl, hb2⟩; (try (replace hb2 := below_undrew hb2)); (try (replace hb2 := below_undrewN hb2)); obtain ⟨hc2, hf2⟩ := bcell hb2; (try (have hz0_2 : w.heap.size < w2.heap.size := (by have := hb2.size; (try simp at this); omega))); (try (have hz1_2 : w.heap.size + 1 < w2.heap.size := (by have := hb2.size; (try simp at this); omega))); (try (have hz_1_2 : w1.heap.size < w2.heap.size := (by have := hb2.size; (try simp at this); omega))))) | (go_at_call 37; (fail_if_success (have := w2)); ((with_reducible refine (RN.out _ _ (by repeat (first | (with_reducible exact Below.refl _ _) | (with_reducible refine below_al ?_ _) | (with_reducible refine below_drewN ?_ _) | (with_reducible refine Below.drew ?_) | (with_reducible refine below_via (by assumption) ?_) | (with_reducible refine below_sc ?_ ?_ _; · (first | (simp; done) | (simp; omega) | omega)))) (by simp [go_sem, *])).mono ?_); rintro e w2 ⟨rfl, hb2⟩; (try (replace hb2 := below_undrew hb2)); (try (replace hb2 := below_undrewN hb2)); obtain ⟨hc2, hf2⟩ := bcell hb2; (try (have hz0_2 : w.heap.size < w2.heap.size := (by have := hb2.size; (try simp at this); omega))); (try (have hz1_2 : w.heap.size + 1 < w2.heap.size := (by have := hb2.size; (try simp at this); omega))); (try (have hz_1_2 : w1.heap.size < w2.heap.size := (by have := hb2.size; (try simp at this); omega))))) | (go_at_call 30; (fail_if_success (have := w3)); ((with_reducible refine (RS.out _ (by repeat (first | (with_reducible exact Below.refl _ _) | (with_reducible refine below_al ?_ _) | (with_reducible refine below_drewN ?_ _) | (with_reducible refine Below.drew ?_) | (with_reducible refine below_via (by assumption) ?_) | (with_reducible refine below_sc ?_ ?_ _; · (first | (simp; done) | (simp; omega) | omega))))).mono ?_); rintro e w3 ⟨rfl, hb3⟩; (try (replace hb3 := below_undrew hb3)); (try (replace hb3 := below_undrewN hb3)); obtain ⟨hc3, hf3⟩ := bcell hb3; (try (have hz0_3 : w.heap.size < w3.heap.size := (by have := hb3.size; (try simp at this); omega))); (try (have hz1_3 : w.heap.size + 1 < w3.heap.size := (by have := hb3.size; (try simp at this); omega))); (try (have hz_1_3 : w1.heap.size < w3.heap.size := (by have := hb3.size; (try simp at this); omega))); (try (have hz_2_3 : w2.heap.size < w3.heap.size := (by have := hb3.size; (try simp at this); omega))))) | (go_at_call 13; (fail_if_success (have := w3)); ((with_reducible refine (ES.out _ (by repeat (first | (with_reducible exact Below.refl _ _) | (with_reducible refine below_al ?_ _) | (with_reducible refine below_drewN ?_ _) | (with_reducible refine Below.drew ?_) | (with_reducible refine below_via (by assumption) ?_) | (with_reducible refine below_sc ?_ ?_ _; · (first | (simp; done) | (simp; omega) | omega))))).mono ?_); rintro e w3 ⟨rfl, hb3⟩; (try (replace hb3 := below_undrew hb3)); (try (replace hb3 := below_undrewN hb3)); obtain ⟨hc3, hf3⟩ := bcell hb3; (try (have hz0_3 : w.heap.size < w3.heap.size := (by have := hb3.size; (try simp at this); omega))); (try (have hz1_3 : w.heap.size + 1 < w3.heap.size := (by have := hb3.size; (try simp at this); omega))); (try (have hz_1_3 : w1.heap.size < w3.heap.size := (by have := hb3.size; (try simp at this); omega))); (try (have hz_2_3 : w2.heap.size < w3.heap.size := (by have := hb3.size; (try simp at this); omega))))) | (go_at_call 37; (fail_if_success (have := w3)); ((with_reducible refine (RN.out _ _ (by repeat (first | (with_reducible exact Below.refl _ _) | (with_reducible refine below_al ?_ _) | (with_reducible refine below_drewN ?_ _) | (with_reducible refine Below.drew ?_) | (with_reducible refine below_via (by assumption) ?_) | (with_reducible refine below_sc ?_ ?_ _; · (first | (simp; done) | (simp; omega) | omega)))) (by simp [go_sem, *])).mono ?_); rintro e w3 ⟨rfl, hb3⟩; (try (replace hb3 := below_undrew hb3)); (try (replace hb3 := below_undrewN hb3)); obtain ⟨hc3, hf3⟩ := bcell hb3; (try (have hz0_3 : w.heap.size < w3.heap.size := (by have := hb3.size; (try simp at this); omega))); (try (have hz1_3 : w.heap.size + 1 < w3.heap.size := (by have := hb3.size; (try simp at this); omega))); (try (have hz_1_3 : w1.heap.size < w3.heap.size := (by have := hb3.size; (try simp at this); omega))); (try (have hz_2_3 : w2.heap.size < w3.heap.size := (by have := hb3.size; (try simp at this); omega))))))
      go_region
      all_goals
        go_wp2
        exact bodyPost_ret (v := .tuple #[.agg #[.int .i64 x0, .int .i64 x1, .int .u64 x2, .string x3], .int .i64 xe]) (by simp [results, Tryz.results11, go_sem, *]) rfl ⟨rfl, (by repeat (first | (with_reducible exact Below.refl _ _) | (with_reducible refine below_al ?_ _) | (with_reducible refine below_drewN ?_ _) | (with_reducible refine Below.drew ?_) | (with_reducible refine below_via (by assumption) ?_) | (with_reducible refine below_sc ?_ ?_ _; · (first | (simp; done) | (simp; omega) | omega))))⟩
end Go.Proofs.YtakcjiinchghaaaGreatDoor
end
section
namespace Go.Proofs.YtakcjiinchghaaaGreatDoor
set_option linter.unusedVariables false
set_option linter.unusedSimpArgs false
open Go.RowKit Go.Proofs.YtakcjiinchghaaaGreatDoorW.PrintWords Go.Proofs.YtakcjiinchghaaaGreatDoorW.PrintLast PRW
/-- the functions of one value and of two, for every world -/
structure Kfn : Prop where
  one : ∀ (W : World) (d : S41) (a : Knd), 3 ≤ d.f0 ∧ d.f0 ≤ 6 → Calls Tryz.prog 78 #[.agg #[.int .i64 d.f0, .int .i64 d.f1, .int .i64 d.f2.f0, .int .i64 d.f2.f1, .int .u64 d.f2.f2, .string d.f2.f3], .agg #[.int .i64 a.of_, .bool a.null, .bool a.bad, .bool a.risk]] W fun e w' => e = .returned (kndA (kOne d a)) ∧ Below W.heap.size W w'
  two : ∀ (W : World) (d : S41) (a b : Knd), 10 ≤ d.f0 ∧ d.f0 ≤ 24 → Calls Tryz.prog 79 #[.agg #[.int .i64 d.f0, .int .i64 d.f1, .int .i64 d.f2.f0, .int .i64 d.f2.f1, .int .u64 d.f2.f2, .string d.f2.f3], .agg #[.int .i64 a.of_, .bool a.null, .bool a.bad, .bool a.risk], .agg #[.int .i64 b.of_, .bool b.null, .bool b.bad, .bool b.risk]] W fun e w' => e = .returned (kndA (kTwo d a b)) ∧ Below W.heap.size W w'
set_option maxRecDepth 100000 in
set_option maxHeartbeats 8000000 in
theorem typed_c (kf : Kfn) (A : Option Addr) (c : Nat) (e : List S41) (A' : Option Addr) (c' : Nat) (cols : List S57) (w : World) (hC : Kd.C k41 w A e.length e) (hc : e.length ≤ c) (hC' : Kd.C k57 w A' cols.length cols)
    (hd : ∀ d ∈ e, I64 d.f2.f1) :
    Calls Tryz.prog 44 #[.slice A e.length c, .slice A' cols.length c'] w fun en w' => en = .returned (.agg #[.int .i64 (typedE e cols).of_, .bool (typedE e cols).null, .bool (typedE e cols).bad, .bool (typedE e cols).risk]) ∧ Below w.heap.size w w' := by
  have ES := hidF (fun W (hb : Below w.heap.size w W) => esound_c A c e (cols.length : Int) W (Kd.C_below hC hb) hc hd)
  cases s2 : soundE e (cols.length : Int)
  · have hE : typedE e cols = ⟨0, false, true, false⟩ := by unfold typedE; rw [s2]; rfl
    rw [hE]
    rw [s2] at ES
    clear hC hC' hd hc s2 hE
    go_enter Tryz.func44, Tryz.ntmps44
    go_wp2_with (first | (go_at_call 13; (fail_if_success (have := w1)); ((with_reducible refine (ES.out _ (by repeat (first | (with_reducible exact Below.refl _ _) | (with_reducible refine below_al ?_ _) | (with_reducible refine below_drewN ?_ _) | (with_reducible refine Below.drew ?_) | (with_reducible refine below_via (by assumption) ?_) | (with_reducible refine below_sc ?_ ?_ _; · (first | (simp; done) | (simp; omega) | omega))))).mono ?_); rintro e w1 ⟨rfl, hb1⟩; (try (replace hb1 := below_undrew hb1)); (try (replace hb1 := below_undrewN hb1)); obtain ⟨hc1, hf1⟩ := bcell hb1; (try (have hz0_1 : w.heap.size < w1.heap.size := (by have := hb1.size; (try simp at this); omega))); (try (have hz1_1 : w.heap.size + 1 < w1.heap.size := (by have := hb1.size; (try simp at this); omega))))) | (go_at_call 13; (fail_if_success (have := w2)); ((with_reducible refine (ES.out _ (by repeat (first | (with_reducible exact Below.refl _ _) | (with_reducible refine below_al ?_ _) | (with_reducible refine below_drewN ?_ _) | (with_reducible refine Below.drew ?_) | (with_reducible refine below_via (by assumption) ?_) | (with_reducible refine below_sc ?_ ?_ _; · (first | (simp; done) | (simp; omega) | omega))))).mono ?_); rintro e w2 ⟨rfl, hb2⟩; (try (replace hb2 := below_undrew hb2)); (try (replace hb2 := below_undrewN hb2)); obtain ⟨hc2, hf2⟩ := bcell hb2; (try (have hz0_2 : w.heap.size < w2.heap.size := (by have := hb2.size; (try simp at this); omega))); (try (have hz1_2 : w.heap.size + 1 < w2.heap.size := (by have := hb2.size; (try simp at this); omega))); (try (have hz_1_2 : w1.heap.size < w2.heap.size := (by have := hb2.size; (try simp at this); omega))))))
    exact bodyPost_ret (v := .agg #[.int .i64 0, .bool false, .bool true, .bool false]) (by simp [results, Tryz.results44, go_sem, *]) rfl ⟨rfl, (by repeat (first | (with_reducible exact Below.refl _ _) | (with_reducible refine below_al ?_ _) | (with_reducible refine below_drewN ?_ _) | (with_reducible refine Below.drew ?_) | (with_reducible refine below_via (by assumption) ?_) | (with_reducible refine below_sc ?_ ?_ _; · (first | (simp; done) | (simp; omega) | omega))))⟩
  · obtain ⟨x, hx, _⟩ : ∃ x, runK cols e [] = [x] ∧ ∀ s, runK cols e s = x :: s := mrun_one (takes_ok (cols.length : Int)) (soundE_iff.1 s2).2
    have hE : typedE e cols = x := by
      unfold typedE
      have h1 : mrun (fun d => d.f0) (kNone cols) kOne kTwo e [] = [x] := hx
      rw [s2, if_pos rfl, h1]; rfl
    rw [hE]
    have RN : Hid (∀ rb W, Below w.heap.size w W → W.cell? ⟨rb, 0, none⟩ = some (.slice A' cols.length c') → Calls Tryz.prog 76 #[.slice A e.length c, .func (.func 77) #[] #[.pointer (some ⟨rb, 0, none⟩)], .func (.func 78) #[] #[], .func (.func 79) #[] #[]] W fun en w' => en = .returned (.agg #[.int .i64 x.of_, .bool x.null, .bool x.bad, .bool x.risk]) ∧ Below W.heap.size W w') := hidF fun rb W hb hcell =>
      runK_c rb cols A c e W (Kd.C_below hC hb) (soundE_iff.1 s2).1 (soundE_iff.1 s2).2
        ⟨fun W2 d hb2 h2 => typed1_c rb A' c' cols d W2 ((hb2.cell (p := ⟨rb, 0, none⟩) (World.block_lt_of_cell? W _ hcell)).trans hcell) (Kd.C_below (Kd.C_below hC' hb) hb2) h2,
         kf.one, kf.two⟩ x hx
    rw [s2] at ES
    obtain ⟨x0, x1, x2, x3⟩ := x
    simp only at RN ⊢
    clear hC hC' hd hc s2 hE hx
    go_enter Tryz.func44, Tryz.ntmps44
    go_wp2_with (first | (go_at_call 13; (fail_if_success (have := w1)); ((with_reducible refine (ES.out _ (by repeat (first | (with_reducible exact Below.refl _ _) | (with_reducible refine below_al ?_ _) | (with_reducible refine below_drewN ?_ _) | (with_reducible refine Below.drew ?_) | (with_reducible refine below_via (by assumption) ?_) | (with_reducible refine below_sc ?_ ?_ _; · (first | (simp; done) | (simp; omega) | omega))))).mono ?_); rintro e w1 ⟨rfl, hb1⟩; (try (replace hb1 := below_undrew hb1)); (try (replace hb1 := below_undrewN hb1)); obtain ⟨hc1, hf1⟩ := bcell hb1; (try (have hz0_1 : w.heap.size < w1.heap.size := (by have := hb1.size; (try simp at this); omega))); (try (have hz1_1 : w.heap.size + 1 < w1.heap.size := (by have := hb1.size; (try simp at this); omega))))) | (go_at_call 76; (fail_if_success (have := w1)); ((with_reducible refine (RN.out _ _ (by repeat (first | (with_reducible exact Below.refl _ _) | (with_reducible refine below_al ?_ _) | (with_reducible refine below_drewN ?_ _) | (with_reducible refine Below.drew ?_) | (with_reducible refine below_via (by assumption) ?_) | (with_reducible refine below_sc ?_ ?_ _; · (first | (simp; done) | (simp; omega) | omega)))) (by simp [go_sem, *])).mono ?_); rintro e w1 ⟨rfl, hb1⟩; (try (replace hb1 := below_undrew hb1)); (try (replace hb1 := below_undrewN hb1)); obtain ⟨hc1, hf1⟩ := bcell hb1; (try (have hz0_1 : w.heap.size < w1.heap.size := (by have := hb1.size; (try simp at this); omega))); (try (have hz1_1 : w.heap.size + 1 < w1.heap.size := (by have := hb1.size; (try simp at this); omega))))) | (go_at_call 13; (fail_if_success (have := w2)); ((with_reducible refine (ES.out _ (by repeat (first | (with_reducible exact Below.refl _ _) | (with_reducible refine below_al ?_ _) | (with_reducible refine below_drewN ?_ _) | (with_reducible refine Below.drew ?_) | (with_reducible refine below_via (by assumption) ?_) | (with_reducible refine below_sc ?_ ?_ _; · (first | (simp; done) | (simp; omega) | omega))))).mono ?_); rintro e w2 ⟨rfl, hb2⟩; (try (replace hb2 := below_undrew hb2)); (try (replace hb2 := below_undrewN hb2)); obtain ⟨hc2, hf2⟩ := bcell hb2; (try (have hz0_2 : w.heap.size < w2.heap.size := (by have := hb2.size; (try simp at this); omega))); (try (have hz1_2 : w.heap.size + 1 < w2.heap.size := (by have := hb2.size; (try simp at this); omega))); (try (have hz_1_2 : w1.heap.size < w2.heap.size := (by have := hb2.size; (try simp at this); omega))))) | (go_at_call 76; (fail_if_success (have := w2)); ((with_reducible refine (RN.out _ _ (by repeat (first | (with_reducible exact Below.refl _ _) | (with_reducible refine below_al ?_ _) | (with_reducible refine below_drewN ?_ _) | (with_reducible refine Below.drew ?_) | (with_reducible refine below_via (by assumption) ?_) | (with_reducible refine below_sc ?_ ?_ _; · (first | (simp; done) | (simp; omega) | omega)))) (by simp [go_sem, *])).mono ?_); rintro e w2 ⟨rfl, hb2⟩; (try (replace hb2 := below_undrew hb2)); (try (replace hb2 := below_undrewN hb2)); obtain ⟨hc2, hf2⟩ := bcell hb2; (try (have hz0_2 : w.heap.size < w2.heap.size := (by have := hb2.size; (try simp at this); omega))); (try (have hz1_2 : w.heap.size + 1 < w2.heap.size := (by have := hb2.size; (try simp at this); omega))); (try (have hz_1_2 : w1.heap.size < w2.heap.size := (by have := hb2.size; (try simp at this); omega))))))
    all_goals exact bodyPost_ret (v := .agg #[.int .i64 x0, .bool x1, .bool x2, .bool x3]) (by simp [results, Tryz.results44, go_sem, *]) rfl ⟨rfl, (by repeat (first | (with_reducible exact Below.refl _ _) | (with_reducible refine below_al ?_ _) | (with_reducible refine below_drewN ?_ _) | (with_reducible refine Below.drew ?_) | (with_reducible refine below_via (by assumption) ?_) | (with_reducible refine below_sc ?_ ?_ _; · (first | (simp; done) | (simp; omega) | omega))))⟩
set_option maxRecDepth 100000 in
set_option maxHeartbeats 8000000 in
theorem type_c (kf : Kfn) (A : Option Addr) (c : Nat) (e : List S41) (A' : Option Addr) (c' : Nat) (cols : List S57) (w : World) (hC : Kd.C k41 w A e.length e) (hc : e.length ≤ c) (hC' : Kd.C k57 w A' cols.length cols)
    (hd : ∀ d ∈ e, I64 d.f2.f1) :
    Calls Tryz.prog 15 #[.slice A e.length c, .slice A' cols.length c'] w fun en w' => en = .returned (.tuple #[.int .i64 (typeE e cols).1, .bool (typeE e cols).2.1, .bool (typeE e cols).2.2]) ∧ Below w.heap.size w w' := by
  have ES := hidF (fun W (hb : Below w.heap.size w W) => typed_c kf A c e A' c' cols W (Kd.C_below hC hb) hc (Kd.C_below hC' hb) hd)
  unfold typeE
  generalize typedE e cols = x at *
  obtain ⟨x0, x1, x2, x3⟩ := x
  simp only at ES ⊢
  clear hC hC' hd hc
  cases x2
  · simp only [Bool.false_eq_true, if_false]
    go_enter Tryz.func15, Tryz.ntmps15
    go_wp2_with (first | (go_at_call 44; (fail_if_success (have := w1)); ((with_reducible refine (ES.out _ (by repeat (first | (with_reducible exact Below.refl _ _) | (with_reducible refine below_al ?_ _) | (with_reducible refine below_drewN ?_ _) | (with_reducible refine Below.drew ?_) | (with_reducible refine below_via (by assumption) ?_) | (with_reducible refine below_sc ?_ ?_ _; · (first | (simp; done) | (simp; omega) | omega))))).mono ?_); rintro e w1 ⟨rfl, hb1⟩; (try (replace hb1 := below_undrew hb1)); (try (replace hb1 := below_undrewN hb1)); obtain ⟨hc1, hf1⟩ := bcell hb1; (try (have hz0_1 : w.heap.size < w1.heap.size := (by have := hb1.size; (try simp at this); omega))))))
    go_region
    all_goals
      go_wp2
      exact bodyPost_ret (v := .tuple #[.int .i64 x0, .bool x1, .bool true]) (by simp [results, Tryz.results15, go_sem, *]) rfl ⟨rfl, (by repeat (first | (with_reducible exact Below.refl _ _) | (with_reducible refine below_al ?_ _) | (with_reducible refine below_drewN ?_ _) | (with_reducible refine Below.drew ?_) | (with_reducible refine below_via (by assumption) ?_) | (with_reducible refine below_sc ?_ ?_ _; · (first | (simp; done) | (simp; omega) | omega))))⟩
  · simp only [if_true]
    go_enter Tryz.func15, Tryz.ntmps15
    go_wp2_with (first | (go_at_call 44; (fail_if_success (have := w1)); ((with_reducible refine (ES.out _ (by repeat (first | (with_reducible exact Below.refl _ _) | (with_reducible refine below_al ?_ _) | (with_reducible refine below_drewN ?_ _) | (with_reducible refine Below.drew ?_) | (with_reducible refine below_via (by assumption) ?_) | (with_reducible refine below_sc ?_ ?_ _; · (first | (simp; done) | (simp; omega) | omega))))).mono ?_); rintro e w1 ⟨rfl, hb1⟩; (try (replace hb1 := below_undrew hb1)); (try (replace hb1 := below_undrewN hb1)); obtain ⟨hc1, hf1⟩ := bcell hb1; (try (have hz0_1 : w.heap.size < w1.heap.size := (by have := hb1.size; (try simp at this); omega))))))
    exact bodyPost_ret (v := .tuple #[.int .i64 0, .bool false, .bool false]) (by simp [results, Tryz.results15, go_sem, *]) rfl ⟨rfl, (by repeat (first | (with_reducible exact Below.refl _ _) | (with_reducible refine below_al ?_ _) | (with_reducible refine below_drewN ?_ _) | (with_reducible refine Below.drew ?_) | (with_reducible refine below_via (by assumption) ?_) | (with_reducible refine below_sc ?_ ?_ _; · (first | (simp; done) | (simp; omega) | omega))))⟩
set_option maxRecDepth 100000 in
set_option maxHeartbeats 8000000 in
theorem safe_c (kf : Kfn) (A : Option Addr) (c : Nat) (e : List S41) (A' : Option Addr) (c' : Nat) (cols : List S57) (w : World) (hC : Kd.C k41 w A e.length e) (hc : e.length ≤ c) (hC' : Kd.C k57 w A' cols.length cols)
    (hd : ∀ d ∈ e, I64 d.f2.f1) :
    Calls Tryz.prog 17 #[.slice A e.length c, .slice A' cols.length c'] w fun en w' => en = .returned (.bool (safeE e cols)) ∧ Below w.heap.size w w' := by
  have ES := hidF (fun W (hb : Below w.heap.size w W) => typed_c kf A c e A' c' cols W (Kd.C_below hC hb) hc (Kd.C_below hC' hb) hd)
  unfold safeE
  generalize typedE e cols = x at *
  obtain ⟨x0, x1, x2, x3⟩ := x
  simp only at ES ⊢
  clear hC hC' hd hc
  cases x2 <;> cases x3
  all_goals
    go_enter Tryz.func17, Tryz.ntmps17
    go_wp2_with (first | (go_at_call 44; (fail_if_success (have := w1)); ((with_reducible refine (ES.out _ (by repeat (first | (with_reducible exact Below.refl _ _) | (with_reducible refine below_al ?_ _) | (with_reducible refine below_drewN ?_ _) | (with_reducible refine Below.drew ?_) | (with_reducible refine below_via (by assumption) ?_) | (with_reducible refine below_sc ?_ ?_ _; · (first | (simp; done) | (simp; omega) | omega))))).mono ?_); rintro e w1 ⟨rfl, hb1⟩; (try (replace hb1 := below_undrew hb1)); (try (replace hb1 := below_undrewN hb1)); obtain ⟨hc1, hf1⟩ := bcell hb1; (try (have hz0_1 : w.heap.size < w1.heap.size := (by have := hb1.size; (try simp at this); omega))))))
    all_goals exact bodyPost_ret (v := .bool _) (by simp [results, Tryz.results17, go_sem, *] <;> rfl) rfl ⟨rfl, (by repeat (first | (with_reducible exact Below.refl _ _) | (with_reducible refine below_al ?_ _) | (with_reducible refine below_drewN ?_ _) | (with_reducible refine Below.drew ?_) | (with_reducible refine below_via (by assumption) ?_) | (with_reducible refine below_sc ?_ ?_ _; · (first | (simp; done) | (simp; omega) | omega))))⟩
end Go.Proofs.YtakcjiinchghaaaGreatDoor
end
section
namespace Go.Proofs.YtakcjiinchghaaaGreatDoor
set_option linter.unusedVariables false
set_option linter.unusedSimpArgs false
open Go.RowKit Go.Proofs.YtakcjiinchghaaaGreatDoorW.PrintWords Go.Proofs.YtakcjiinchghaaaGreatDoorW.PrintLast PRW
theorem kfn : Kfn where
  one := fun W d a h => by
    rcases (show d.f0 = 3 ∨ d.f0 = 4 ∨ d.f0 = 5 ∨ d.f0 = 6 by omega) with q | q | q | q
    · exact one3_c d a W q
    · exact one4_c d a W q
    · exact one5_c d a W q
    · exact one6_c d a W q
  two := fun W d a b h => twoK_c d a b W h
end Go.Proofs.YtakcjiinchghaaaGreatDoor
end
section
namespace Go.Proofs.YtakcjiinchghaaaGreatDoor
set_option linter.unusedVariables false
set_option linter.unusedSimpArgs false
open Go.RowKit Go.Proofs.YtakcjiinchghaaaGreatDoorW.PrintWords Go.Proofs.YtakcjiinchghaaaGreatDoorW.PrintLast PRW
theorem infoDd : (Tryz.prog.info? 41).map (fun i => (i.zero, i.size, i.bytes)) = some (some (.agg #[(.int .i64 0), (.int .i64 0), (.int .i64 0), (.int .i64 0), (.int .u64 0), (.string ⟨#[]⟩)]), 6, 56) := by kernel_rfl
theorem C_empty {α : Type} {d : Kd α} {w : World} {n : Nat} {xs : List α} (h : d.C w none n xs) : xs = [] ∧ n = 0 := by
  obtain ⟨h1, h2, h3⟩ := h
  rcases Nat.eq_zero_or_pos n with h0 | h0
  · subst h0; exact ⟨List.eq_nil_of_length_eq_zero h1, rfl⟩
  · obtain ⟨ad, e, _⟩ := h3 h0; cases e
set_option maxRecDepth 100000 in
set_option maxHeartbeats 4000000 in
theorem cloneDo_c (A0 : Option Addr) (c0 : Nat) (l : List S41) (w : World) (hr : Kd.C k41 w A0 l.length l) (hl : l.length ≤ 2513169434843) :
    Calls Tryz.prog 46 #[.slice A0 l.length c0] w fun e w' => ∃ v0, e = .returned v0 ∧ Kd.R k41 41 w' w.heap.size (fun _ => True) v0 l ∧ Below w.heap.size w w' := by
  have q33 : ∀ (w : World) (a : Option Addr) (n c n' c' : Nat), (binOp .eql 23 (.slice a n c) (.slice none n' c')).run Tryz.prog w = .ok (.bool a.isNone) w := fun w a n c n' c' => Lib.run_eql_slice_nil w _ _ a n c n' c' Tryz.underlying23
  have HR := hidF hr
  clear hr
  cases A0 with
  | none =>
    obtain ⟨rfl, h0⟩ := C_empty HR.out
    go_enter Tryz.func46, Tryz.ntmps46
    go_wp2
    go_ret
    exact ⟨_, rfl, Kd.R_nil _ _ _ _ _, Below.refl _ _⟩
  | some ad =>
    have HB := Aside0.mk (Below.refl w.heap.size w)
    go_enter Tryz.func46, Tryz.ntmps46
    go_wp2_with (first
      | ((with_reducible refine gate_dst (N := 5) rfl ?_); refine Kd.R_lit k41 _ 41 ?hg (N := 5) ?hd (xs := ([] : List S41)) (inner := []) (ok := fun _ => True) (okp := fun _ => True) ?hr ?hp (fun _ hk => hk) trivial (Below.refl _ _) (Nat.le_refl _) (by simp) ?_; (case hd => rfl); (case hg => rfl); (case hr => first | (go_simp; done) | (go_simp; rfl)); (case hp => exact Reps.none _ _); intro v1 w1 ho1 hb1 hg1 hn1; clear hg1 hn1; have HO1 := Aside0.mk ho1; have HB1 := Aside0.mk hb1; clear ho1 hb1)
      | ((with_reducible refine gate_dst (N := 7) rfl ?_); refine Kd.R_append_rows k41 (w0 := w) w.heap.size rfl (.tmp 5) (.tmp 6) 23 41 (.agg #[(.int .i64 0), (.int .i64 0), (.int .i64 0), (.int .i64 0), (.int .u64 0), (.string ⟨#[]⟩)]) 56 rfl Tryz.underlying23 infoDd rfl (by decide) (by omega) v1 [] l _ _ _ (fun _ => True) (fun _ => False) rfl rfl ?aO ?aR (fun _ _ h => h) (fun _ h => h.elim) ?aF ?aB ?aS ?aL ?_; (case aO => exact HO1.out); (case aR => exact Kd.C_below HR.out HB1.out); (case aF => exact fun _ _ => trivial); (case aB => exact HB1.out); (case aS => exact HB1.out.size); (case aL => simp; omega); intro v2 w2 ho2 hb2 hg2 hn2; clear hg2 hn2; have HO2 := Aside0.mk ho2; have HB2 := Aside0.mk hb2; clear ho2 hb2))
    go_ret
    exact ⟨_, rfl, HO2.out, HB2.out⟩
end Go.Proofs.YtakcjiinchghaaaGreatDoor
end
section
namespace Go.Proofs.YtakcjiinchghaaaGreatDoor
set_option linter.unusedVariables false
set_option linter.unusedSimpArgs false
open Go.RowKit Go.Proofs.YtakcjiinchghaaaGreatDoorW.PrintWords Go.Proofs.YtakcjiinchghaaaGreatDoorW.PrintLast PRW
/-- every column that is named has a new place -/
def okTo (e : List S41) (tos : List Int) : Bool := e.all fun d => decide (d.f0 ≠ 2) || (decide (0 ≤ d.f1) && decide (d.f1 < (tos.length : Int)))
def moveE (e : List S41) (tos : List Int) : List S41 := if okTo e tos then e.map (mvD tos) else []
def moveF (e : List S41) (tos : List Int) : Int := if okTo e tos then 0 else 1
theorem okTo_false {e : List S41} {tos : List Int} {i : Nat} {d : S41} (hd : e[i]? = some d) (h : ¬ (d.f0 ≠ 2 ∨ (0 ≤ d.f1 ∧ d.f1 < (tos.length : Int)))) : okTo e tos = false := by
  unfold okTo
  rw [List.all_eq_false]
  exact ⟨d, List.mem_of_getElem? hd, by simp only [Bool.or_eq_true, Bool.and_eq_true, decide_eq_true_eq]; exact h⟩
theorem okTo_take {e : List S41} {tos : List Int} {i : Nat} {d : S41} (hd : e[i]? = some d) (h0 : okTo (e.take i) tos = true) (h : d.f0 ≠ 2 ∨ (0 ≤ d.f1 ∧ d.f1 < (tos.length : Int))) : okTo (e.take (i + 1)) tos = true := by
  have hi : i < e.length := (List.getElem?_eq_some_iff.1 hd).1
  have he : e[i] = d := (List.getElem?_eq_some_iff.1 hd).2
  unfold okTo at *
  rw [List.take_succ_eq_append_getElem hi, List.all_append, h0, he]
  simp only [List.all_cons, List.all_nil, Bool.and_true, Bool.true_and, Bool.or_eq_true, Bool.and_eq_true, decide_eq_true_eq]
  exact h
/-- the steps of which so many have moved -/
def mvTo (e : List S41) (tos : List Int) (i : Nat) : List S41 := (e.take i).map (mvD tos) ++ e.drop i
theorem mvTo_len (e : List S41) (tos : List Int) (i : Nat) (hi : i ≤ e.length) : (mvTo e tos i).length = e.length := by unfold mvTo; simp; omega
theorem mvTo_set {e : List S41} {tos : List Int} {i : Nat} {d : S41} (hd : e[i]? = some d) : (mvTo e tos i).set i (mvD tos d) = mvTo e tos (i + 1) := by
  have hi : i < e.length := (List.getElem?_eq_some_iff.1 hd).1
  have he : e[i] = d := (List.getElem?_eq_some_iff.1 hd).2
  unfold mvTo
  rw [List.take_succ_eq_append_getElem hi, List.map_append, he, List.drop_eq_getElem_cons hi, List.set_append_right _ _ (by simp; omega)]
  have : i - ((e.take i).map (mvD tos)).length = 0 := by simp; omega
  rw [this, List.set_cons_zero]
  simp
theorem mvTo_same {e : List S41} {tos : List Int} {i : Nat} {d : S41} (hd : e[i]? = some d) (h : d.f0 ≠ 2) : mvTo e tos (i + 1) = mvTo e tos i := by
  have hi : i < e.length := (List.getElem?_eq_some_iff.1 hd).1
  have he : e[i] = d := (List.getElem?_eq_some_iff.1 hd).2
  unfold mvTo
  rw [List.take_succ_eq_append_getElem hi, List.map_append, he, List.drop_eq_getElem_cons hi, he]
  simp [mvD_not tos d h]
theorem mvTo_at {e : List S41} {tos : List Int} {i : Nat} {d : S41} (hd : e[i]? = some d) (z : S41) : (mvTo e tos i).getD i z = d := by
  have hi : i < e.length := (List.getElem?_eq_some_iff.1 hd).1
  have he : e[i] = d := (List.getElem?_eq_some_iff.1 hd).2
  unfold mvTo
  rw [List.getD_eq_getElem?_getD, List.getElem?_append_right (by simp; omega)]
  have : i - ((e.take i).map (mvD tos)).length = 0 := by simp; omega
  rw [this, List.drop_eq_getElem_cons hi, he]; rfl
theorem mvTo_full (e : List S41) (tos : List Int) (i : Nat) (hi : i = e.length) : mvTo e tos i = e.map (mvD tos) := by
  unfold mvTo; subst hi; simp
/-- the field of one step is written in a row of the call's own -/
theorem put_step {W : World} {base g n cap : Nat} {xs : List S41} {ok : Nat → Prop} (h : Kd.R k41 41 W base ok (.slice (some ⟨g, 0, none⟩) n cap) xs) (i : Nat) (hi : i < n) (d : S41) (hd : xs.getD i z41 = d) (x : Int) :
    W.cell? ⟨g, i * 6 + 1, none⟩ = some (.int .i64 d.f1) ∧ W.frozen? ⟨g, i * 6 + 1, none⟩ = false ∧ Kd.R k41 41 (W.setCell ⟨g, i * 6 + 1, none⟩ (.int .i64 x)) base ok (.slice (some ⟨g, 0, none⟩) n cap) (xs.set i ⟨d.f0, x, d.f2⟩) := by
  obtain ⟨c, hcl, hM, hcc, hcf⟩ := Kd.R_elem h z41 (i : Int) (by omega) (by omega)
  simp only [Int.toNat_natCast] at hM hcc hcf
  rw [hd] at hM
  obtain rfl := k41_openM hM
  refine ⟨hcc 1 _ rfl, hcf 1, ?_⟩
  have := (Kd.R_seg h (i : Int) (by omega) (by omega) (c := _) (seg := [.int .i64 x]) (j := 1) hcl hcc (by show 1 + 1 ≤ 6; omega) (x' := ⟨d.f0, x, d.f2⟩) (okp := fun k => ok k ∧ k ≠ g) (k41_mkM _ _ _ _) (fun _ h => h)).1
  exact this
def natOfV : Value → Nat
  | .int _ n => n.toNat
  | _ => 0
set_option maxRecDepth 100000 in
set_option maxHeartbeats 8000000 in
theorem move_c (A : Option Addr) (c : Nat) (e : List S41) (A' : Option Addr) (c' : Nat) (tos : List Int) (w : World) (hC : Kd.C k41 w A e.length e) (hT : Kd.C (Kd.int .i64) w A' tos.length tos) (hl : e.length ≤ 2513169434843) :
    Calls Tryz.prog 19 #[.slice A e.length c, .slice A' tos.length c'] w fun en w' => ∃ v, en = .returned (.tuple #[v, .int .i64 (moveF e tos)]) ∧ Kd.R k41 41 w' w.heap.size (fun _ => True) v (moveE e tos) ∧ Below w.heap.size w w' := by
  have HC := hidF hC
  have HT := hidF hT
  have HL := hidF hl
  clear hC hT
  go_enter Tryz.func19, Tryz.ntmps19
  go_wp2_with (go_at_call 46; ((with_reducible refine (cloneDo_c A c e _ HC.out HL.out).mono ?_); rintro en w1 ⟨v1, rfl, h1, hb1⟩; obtain ⟨A1, c1, rfl⟩ := Kd.R_slice h1; have HR1 := hidF h1; have HB1 := hidF hb1; clear h1 hb1))
  go_loopw [13] (fun v wr => ∃ i : Nat, v = .int .i64 (i : Int) ∧ i ≤ e.length ∧ Hid (okTo (e.take i) tos = true) ∧ Hid (Below w.heap.size w wr) ∧ Hid (Kd.R k41 41 wr w.heap.size (fun _ => True) (.slice A1 e.length c1) (mvTo e tos i))) (fun v _ => e.length - natOfV v)
  case atStart => exact ⟨0, rfl, by omega, hidF rfl, HB1, hidF (by simpa [mvTo] using HR1.out)⟩
  case round =>
    clear HR1 HB1
    obtain ⟨i, rfl, hil, HK, HB, HR⟩ := hrel
    by_cases hlt : i < e.length
    · obtain ⟨d, hd⟩ : ∃ d, e[i]? = some d := ⟨_, List.getElem?_eq_getElem hlt⟩
      have HD := hidF hd
      have rdd : rd_T41 e (i : Int) = d := by
        unfold rd_T41
        simp only [Int.toNat_natCast, List.getD_eq_getElem?_getD]
        rw [hd]; rfl
      obtain ⟨ad, ea, k0, k1, k2, k3, k4, k5⟩ := at_T41 (Kd.C_below HC.out HB.out) (i : Int) (by omega) (by omega)
      cases ea
      rw [rdd] at k0 k1 k2 k3 k4 k5
      simp only [Int.toNat_natCast] at k0 k1 k2 k3 k4 k5
      have hii : (i : Int) < (e.length : Int) := by omega
      have hwle := HB.out.size
      by_cases h2 : d.f0 = 2
      · by_cases hin : 0 ≤ d.f1 ∧ d.f1 < (tos.length : Int)
        · obtain ⟨tad, rfl, t0⟩ := Kd.at_int (Kd.C_below HT.out HB.out) d.f1 hin.1 hin.2
          obtain ⟨g, cap, hv, hg, hgl, _⟩ := Kd.R_form HR.out (by rw [mvTo_len e tos i hil]; omega)
          rw [mvTo_len e tos i hil] at hv
          injection hv with hv1 hv2 hv3
          subst hv1; subst hv3
          have tl := World.block_lt_of_cell? wr _ t0
          have n1 : ¬ (tad.add d.f1.toNat).block = wr.heap.size := by omega
          have n1' : ¬ wr.heap.size = (tad.add d.f1.toNat).block := by omega
          have n2 : ¬ g = wr.heap.size := by omega
          have n2' : ¬ wr.heap.size = g := by omega
          obtain ⟨p0, p1, p2⟩ := put_step HR.out i hlt d (mvTo_at hd _) (rd tos d.f1)
          have HP := hidF p2
          have HGG := hidF hg
          clear p2
          have hmv : mvD tos d = ⟨d.f0, rd tos d.f1, d.f2⟩ := if_pos h2
          have HS := hidF ((mvTo_set (tos := tos) hd).symm)
          rw [hmv] at HS
          have HK2 := hidF (okTo_take hd HK.out (.inr hin))
          have e2 : (d.f0 != 2) = false := by rw [h2]; rfl
          have e3 : decide (d.f1 < 0) = false := decide_eq_false (by omega)
          have e4 : decide ((tos.length : Int) ≤ d.f1) = false := decide_eq_false (by omega)
          obtain ⟨q0, q1⟩ := hin
          clear hd rdd h2 hmv
          go_wp2_with fail
          go_roundw
          case rel => exact ⟨i + 1, by go_num, by omega, HK2, hidF ((HB.out.setCell (p := ⟨g, i * 6 + 1, none⟩) HGG.out _).alloc (by simpa using HB.out.size) _), hidF (by rw [HS.out]; exact Kd.R_alloc HP.out _)⟩
          case measure => simp [natOfV]; omega
        · have HF := hidF (okTo_false (tos := tos) hd (fun h => h.elim (fun h => h h2) hin))
          have e2 : (d.f0 != 2) = false := by rw [h2]; rfl
          have hret : moveE e tos = [] := by unfold moveE; rw [HF.out]; rfl
          have hret2 : moveF e tos = 1 := by unfold moveF; rw [HF.out]; rfl
          have HQ := hidF hret
          have HQ2 := hidF hret2
          by_cases h3 : d.f1 < 0
          · have e3 : decide (d.f1 < 0) = true := decide_eq_true h3
            clear hd rdd h2 h3 hin hret hret2
            go_wp2_with fail
            exact bodyPost_ret (v := .tuple #[.slice none 0 0, .int .i64 1]) (by simp [results, Tryz.results19, go_sem, *]) rfl ⟨_, by rw [HQ2.out], by rw [HQ.out]; exact Kd.R_nil _ _ _ _ _, HB.out.alloc HB.out.size _⟩
          · have e3 : decide (d.f1 < 0) = false := decide_eq_false h3
            have e4 : decide ((tos.length : Int) ≤ d.f1) = true := decide_eq_true (by omega)
            clear hd rdd h2 h3 hin hret hret2
            go_wp2_with fail
            exact bodyPost_ret (v := .tuple #[.slice none 0 0, .int .i64 1]) (by simp [results, Tryz.results19, go_sem, *]) rfl ⟨_, by rw [HQ2.out], by rw [HQ.out]; exact Kd.R_nil _ _ _ _ _, HB.out.alloc HB.out.size _⟩
      · have HK2 := hidF (okTo_take (tos := tos) hd HK.out (.inl h2))
        have HS := hidF (mvTo_same (tos := tos) hd h2)
        have e2 : (d.f0 != 2) = true := bne_iff_ne.2 h2
        clear hd rdd h2
        go_wp2_with fail
        go_roundw
        case rel => exact ⟨i + 1, by go_num, by omega, HK2, hidF (HB.out.alloc HB.out.size _), hidF (by rw [HS.out]; exact Kd.R_alloc HR.out _)⟩
        case measure => simp [natOfV]; omega
    · have hie : i = e.length := by omega
      have hok : okTo e tos = true := by have := HK.out; rwa [hie, List.take_of_length_le (Nat.le_refl _)] at this
      have hret : moveE e tos = mvTo e tos i := by unfold moveE; rw [hok, mvTo_full e tos i hie]; rfl
      have hret2 : moveF e tos = 0 := by unfold moveF; rw [hok]; rfl
      have HQ := hidF hret
      have HQ2 := hidF hret2
      have hii : ¬ (i : Int) < (e.length : Int) := by omega
      clear hie hok hret hret2 hlt hil
      go_wp2_with fail
      exact bodyPost_ret (v := .tuple #[.slice A1 e.length c1, .int .i64 0]) (by simp [results, Tryz.results19, go_sem, *]) rfl ⟨_, by rw [HQ2.out], by rw [HQ.out]; exact HR.out, HB.out⟩
end Go.Proofs.YtakcjiinchghaaaGreatDoor
end
section
namespace Go.Proofs.YtakcjiinchghaaaGreatDoor
set_option linter.unusedVariables false
set_option linter.unusedSimpArgs false
open Go.RowKit Go.Proofs.YtakcjiinchghaaaGreatDoorW.PrintWords Go.Proofs.YtakcjiinchghaaaGreatDoorW.PrintLast PRW
/-- what stands behind a step's code -/
def tailS (d : S41) : ByteArray := if d.f0 = 1 then ⟨(showL d.f2.f0 d.f2.f1 d.f2.f2 d.f2.f3).toArray⟩ else if d.f0 = 2 ∨ d.f0 = 6 then ⟨(Lib.itoa d.f1).toArray⟩ else ⟨#[]⟩
def codeS (d : S41) : ByteArray := ⟨(Lib.itoa d.f0).toArray⟩
/-- a step as a text -/
def stepS (d : S41) : ByteArray := if d.f0 = 1 ∨ d.f0 = 2 ∨ d.f0 = 6 then codeS d ++ ⟨#[58]⟩ ++ tailS d else codeS d ++ ⟨#[58]⟩
def partsE (e : List S41) : List ByteArray := e.map stepS
theorem parts_len (e : List S41) : (partsE e).length = e.length := by unfold partsE; rw [List.length_map]
theorem parts_take {e : List S41} {i : Nat} {d : S41} (hd : e[i]? = some d) : partsE (e.take (i + 1)) = partsE (e.take i) ++ [stepS d] := by
  have hi : i < e.length := (List.getElem?_eq_some_iff.1 hd).1
  have he : e[i] = d := (List.getElem?_eq_some_iff.1 hd).2
  unfold partsE
  rw [List.take_succ_eq_append_getElem hi, List.map_append, he]; rfl
theorem stepS_size (d : S41) (h : d.f0 = 1 ∨ d.f0 = 2 ∨ d.f0 = 6) : (stepS d).size = (codeS d).size + 1 + (tailS d).size := by
  unfold stepS
  rw [if_pos h, ByteArray.size_append, ByteArray.size_append]; rfl
theorem stepS_size0 (d : S41) (h : ¬ (d.f0 = 1 ∨ d.f0 = 2 ∨ d.f0 = 6)) : (stepS d).size = (codeS d).size + 1 := by
  unfold stepS
  rw [if_neg h, ByteArray.size_append]; rfl
theorem infoSt : (Tryz.prog.info? 9).map (fun i => (i.zero, i.size, i.bytes)) = some (some (.string ⟨#[]⟩), 1, 16) := by kernel_rfl
theorem keepC5 {W w1 : World} {p : Addr} {v : Value} (hb : Below W.heap.size W w1) (h : W.cell? p = some v) : w1.cell? p = some v := (hb.cell (World.block_lt_of_cell? W _ h)).trans h
set_option maxRecDepth 100000 in
set_option maxHeartbeats 8000000 in
theorem eshow_c (A : Option Addr) (c : Nat) (e : List S41) (w : World) (hC : Kd.C k41 w A e.length e) (hT : ETab w) (hd : ∀ d ∈ e, I64 d.f0 ∧ I64 d.f1 ∧ I64 d.f2.f1 ∧ U64 d.f2.f2) (hl : e.length ≤ 1000000)
    (hz : ∀ d ∈ e, (stepS d).size ≤ 1099511627776) (r : ByteArray) (hj : xJoin.f (partsE e) ⟨#[32]⟩ = some r) :
    Calls Tryz.prog 25 #[.slice A e.length c] w fun en w' => en = .returned (.string r) ∧ Below w.heap.size w w' := by
  have HC := hidF hC
  have HTW := hidF hT
  have HD := hidF hd
  have HZ := hidF hz
  have HJ := hidF hj
  have hl1 : (0 : Int) ≤ (e.length : Int) := by omega
  have hl2 : (e.length : Int).toNat ≤ 1000000 := by omega
  clear hC hT hd hz hj
  go_enter Tryz.func25, Tryz.ntmps25
  go_wp2_with (first | ((with_reducible refine gate_dst (N := 9) rfl ?_); refine Kd.R_make0 Kd.string _ 9 rfl (N := 9) rfl 82 _ _ rfl (e.length : Int) rfl rfl Tryz.underlying82 (.string ⟨#[]⟩) 16 infoSt rfl (by decide) (by omega) (⟨#[]⟩ : ByteArray) (ok := fun _ => True) (okp := fun _ => True) rfl (fun _ hk => hk) trivial hl1 (Nat.le_trans (Nat.mul_le_mul_right _ hl2) (by omega)) (Below.refl _ _) (Nat.le_refl _) ?_; intro v0 w0 ho hb0 hg0 hn0; clear hg0 hn0; have HR0 := hidF ho; have HB0 := hidF hb0; clear ho hb0))
  go_loopw [3, 12] (fun v3 v wr => ∃ i : Nat, v = .int .i64 (i : Int) ∧ i ≤ e.length ∧ Hid (Below w.heap.size w wr) ∧ Hid (Kd.R Kd.string 9 wr w.heap.size (fun _ => True) v3 (partsE (e.take i)))) (fun _ v _ => e.length - natOfV v)
  case atStart => exact ⟨0, rfl, by omega, HB0, HR0⟩
  case round =>
    clear HR0 HB0
    obtain ⟨i, rfl, hil, HB, HR⟩ := hrel
    by_cases hlt : i < e.length
    · obtain ⟨d, hd⟩ : ∃ d, e[i]? = some d := ⟨_, List.getElem?_eq_getElem hlt⟩
      have hdm := HD.out d (List.mem_of_getElem? hd)
      have hzm := HZ.out d (List.mem_of_getElem? hd)
      have rdd : rd_T41 e (i : Int) = d := by
        unfold rd_T41
        simp only [Int.toNat_natCast, List.getD_eq_getElem?_getD]
        rw [hd]; rfl
      obtain ⟨ad, ea, k0, k1, k2, k3, k4, k5⟩ := at_T41 (Kd.C_below HC.out HB.out) (i : Int) (by omega) (by omega)
      cases ea
      rw [rdd] at k0 k1 k2 k3 k4 k5
      simp only [Int.toNat_natCast] at k0 k1 k2 k3 k4 k5
      have hii : (i : Int) < (e.length : Int) := by omega
      have hwle := HB.out.size
      have HP := hidF (parts_take hd)
      have hpl : (partsE (e.take i)).length ≤ 1000000 := by rw [parts_len, List.length_take]; omega
      obtain ⟨A1, c1, rfl⟩ := Kd.R_slice HR.out
      obtain ⟨W1, hW1⟩ : ∃ W1, wr.alloc (.cells #[.int .i64 d.f0, .int .i64 d.f1, .int .i64 d.f2.f0, .int .i64 d.f2.f1, .int .u64 d.f2.f2, .string d.f2.f3] 41) = W1 := ⟨_, rfl⟩
      obtain ⟨D, hD⟩ : ∃ D, wr.heap.size = D := ⟨_, rfl⟩
      have HBa := hidF (show Below w.heap.size w W1 by rw [← hW1]; exact HB.out.alloc HB.out.size _)
      have HRa := hidF (show Kd.R Kd.string 9 W1 w.heap.size (fun _ => True) _ (partsE (e.take i)) by rw [← hW1]; exact Kd.R_alloc HR.out _)
      have m0 : W1.cell? ⟨D, 0, none⟩ = some (.int .i64 d.f0) := by rw [← hW1, ← hD]; exact (blk_cell (heap_alloc_new _ _) 0).trans rfl
      have m1 : W1.cell? ⟨D, 1, none⟩ = some (.int .i64 d.f1) := by rw [← hW1, ← hD]; exact (blk_cell (heap_alloc_new _ _) 1).trans rfl
      have m2 : W1.cell? ⟨D, 2, none⟩ = some (.int .i64 d.f2.f0) := by rw [← hW1, ← hD]; exact (blk_cell (heap_alloc_new _ _) 2).trans rfl
      have m3 : W1.cell? ⟨D, 3, none⟩ = some (.int .i64 d.f2.f1) := by rw [← hW1, ← hD]; exact (blk_cell (heap_alloc_new _ _) 3).trans rfl
      have m4 : W1.cell? ⟨D, 4, none⟩ = some (.int .u64 d.f2.f2) := by rw [← hW1, ← hD]; exact (blk_cell (heap_alloc_new _ _) 4).trans rfl
      have m5 : W1.cell? ⟨D, 5, none⟩ = some (.string d.f2.f3) := by rw [← hW1, ← hD]; exact (blk_cell (heap_alloc_new _ _) 5).trans rfl
      have HI0 : Hid (∀ W, ETab W → Calls Tryz.prog 50 #[.int .i64 d.f0] W fun e w' => e = .returned (.string (codeS d)) ∧ Below W.heap.size W w') := hidF fun W ht => itoa_c d.f0 W hdm.1 ht.pow
      have HT1 := hidF (HTW.out.below HBa.out)
      by_cases h1 : d.f0 = 1 ∨ d.f0 = 2 ∨ d.f0 = 6
      · have hz1 := stepS_size d h1
        have z1 : (9223372036854775807 < (codeS d).size + 1) = False := eq_false (by omega)
        have z2 : (9223372036854775807 < (codeS d).size + 1 + (tailS d).size) = False := eq_false (by omega)
        have HSt : Hid (stepS d = codeS d ++ ⟨#[58]⟩ ++ tailS d) := hidF (if_pos h1)
        have HX : Hid (∀ W, ETab W → (d.f0 = 1 → Calls Tryz.prog 51 #[.agg #[.int .i64 d.f2.f0, .int .i64 d.f2.f1, .int .u64 d.f2.f2, .string d.f2.f3]] W fun e w' => e = .returned (.string (tailS d)) ∧ Below W.heap.size W w') ∧ (d.f0 ≠ 1 → Calls Tryz.prog 50 #[.int .i64 d.f1] W fun e w' => e = .returned (.string (tailS d)) ∧ Below W.heap.size W w')) := hidF fun W ht => by
          constructor
          · intro h
            have : tailS d = ⟨(showL d.f2.f0 d.f2.f1 d.f2.f2 d.f2.f3).toArray⟩ := if_pos h
            rw [this]; exact show_c _ _ _ _ W hdm.2.2.1 hdm.2.2.2 ht.pow ht.deB
          · intro h
            have : tailS d = ⟨(Lib.itoa d.f1).toArray⟩ := by unfold tailS; rw [if_neg h, if_pos (by omega)]
            rw [this]; exact itoa_c _ W hdm.2.1 ht.pow
        have key : Hid (∃ q1 q2 q6 : Bool, (d.f0 == 1) = q1 ∧ (d.f0 == 2) = q2 ∧ (d.f0 == 6) = q6 ∧ ((q1 = true ∧ d.f0 = 1) ∨ (q1 = false ∧ q2 = true ∧ d.f0 ≠ 1) ∨ (q1 = false ∧ q2 = false ∧ q6 = true ∧ d.f0 ≠ 1))) := hidF (by
          refine ⟨_, _, _, rfl, rfl, rfl, ?_⟩
          rcases h1 with h | h | h <;> rw [h] <;> simp)
        obtain ⟨q1, q2, q6, e1, e2, e6, hq⟩ := key.out
        clear hd rdd hdm hzm hz1 h1 key
        rcases hq with ⟨rfl, hq⟩ | ⟨rfl, rfl, hq⟩ | ⟨rfl, rfl, rfl, hq⟩
        all_goals
          have HQ := hidF hq
          clear hq
          go_wp2_with (first
            | (go_at_call 50; (fail_if_success (have := w1)); ((with_reducible refine (HI0.out W1 HT1.out).mono ?_); rintro en w1 ⟨rfl, hb1⟩; have n0 := keepC5 hb1 m0; have n1 := keepC5 hb1 m1; have n2 := keepC5 hb1 m2; have n3 := keepC5 hb1 m3; have n4 := keepC5 hb1 m4; have n5 := keepC5 hb1 m5; have HB1 := hidF (HBa.out.trans (hb1.mono HBa.out.size)); have HR1 := hidF (Kd.R_below HRa.out hb1); have HT2 := hidF (HT1.out.below hb1); clear hb1))
            | (go_at_call 50; ((with_reducible refine (((HX.out w1 HT2.out).2 HQ.out)).mono ?_); rintro en w2 ⟨rfl, hb2⟩; have HB2 := hidF (HB1.out.trans (hb2.mono HB1.out.size)); have HR2 := hidF (Kd.R_below HR1.out hb2); clear hb2))
            | (go_at_call 51; ((with_reducible refine (((HX.out w1 HT2.out).1 HQ.out)).mono ?_); rintro en w2 ⟨rfl, hb2⟩; have HB2 := hidF (HB1.out.trans (hb2.mono HB1.out.size)); have HR2 := hidF (Kd.R_below HR1.out hb2); clear hb2))
            | ((with_reducible refine gate_builtin (b := .append) (xs := #[.tmp 37, .tmp 39]) rfl ?_); at_builtin; refine Kd.R_append Kd.string (w0 := w) w.heap.size ?h1 (.tmp 37) (.tmp 39) 82 9 (.string ⟨#[]⟩) 16 ?h2 ?h3 ?h4 ?h5 ?h6 ?h7 (.slice A1 (partsE (e.take i)).length c1) (partsE (e.take i)) (codeS d ++ ⟨#[58]⟩ ++ tailS d) [.string (codeS d ++ ⟨#[58]⟩ ++ tailS d)] (fun _ => True) (fun _ => False) ?h8 ?h9 ?aP ?hk ?aF ?aO ?aB ?aS ?aL ?_; (case h1 => exact rfl); (case h2 => exact rfl); (case h3 => exact Tryz.underlying82); (case h4 => exact infoSt); (case h5 => exact rfl); (case h6 => decide); (case h7 => omega); (case h8 => exact rfl); (case h9 => exact rfl); (case hk => exact (fun _ hk => hk.elim)); (case aP => exact rfl); (case aF => exact (fun _ _ => trivial)); (case aO => exact HR2.out); (case aB => exact HB2.out); (case aS => exact HB2.out.size); (case aL => omega); intro v1 w3 ho hb hg hat; have HO := hidF ho; have HB3 := hidF hb; clear ho hb hg hat))
          go_roundw
          case rel => exact ⟨i + 1, by go_num, by omega, HB3, hidF (by rw [HP.out, HSt.out]; exact HO.out)⟩
          case measure => simp [natOfV]; omega
      · have hz1 := stepS_size0 d h1
        have z1 : (9223372036854775807 < (codeS d).size + 1) = False := eq_false (by omega)
        have HSt : Hid (stepS d = codeS d ++ ⟨#[58]⟩) := hidF (if_neg h1)
        have e1 : (d.f0 == 1) = false := beq_eq_false_iff_ne.2 (fun h => h1 (.inl h))
        have e2 : (d.f0 == 2) = false := beq_eq_false_iff_ne.2 (fun h => h1 (.inr (.inl h)))
        have e6 : (d.f0 == 6) = false := beq_eq_false_iff_ne.2 (fun h => h1 (.inr (.inr h)))
        clear hd rdd hdm hzm hz1 h1
        go_wp2_with (first
          | (go_at_call 50; (fail_if_success (have := w1)); ((with_reducible refine (HI0.out W1 HT1.out).mono ?_); rintro en w1 ⟨rfl, hb1⟩; have n0 := keepC5 hb1 m0; have n1 := keepC5 hb1 m1; have n2 := keepC5 hb1 m2; have n3 := keepC5 hb1 m3; have n4 := keepC5 hb1 m4; have n5 := keepC5 hb1 m5; have HB1 := hidF (HBa.out.trans (hb1.mono HBa.out.size)); have HR1 := hidF (Kd.R_below HRa.out hb1); clear hb1))
          | ((with_reducible refine gate_builtin (b := .append) (xs := #[.tmp 37, .tmp 39]) rfl ?_); at_builtin; refine Kd.R_append Kd.string (w0 := w) w.heap.size ?h1 (.tmp 37) (.tmp 39) 82 9 (.string ⟨#[]⟩) 16 ?h2 ?h3 ?h4 ?h5 ?h6 ?h7 (.slice A1 (partsE (e.take i)).length c1) (partsE (e.take i)) (codeS d ++ ⟨#[58]⟩) [.string (codeS d ++ ⟨#[58]⟩)] (fun _ => True) (fun _ => False) ?h8 ?h9 ?aP ?hk ?aF ?aO ?aB ?aS ?aL ?_; (case h1 => exact rfl); (case h2 => exact rfl); (case h3 => exact Tryz.underlying82); (case h4 => exact infoSt); (case h5 => exact rfl); (case h6 => decide); (case h7 => omega); (case h8 => exact rfl); (case h9 => exact rfl); (case hk => exact (fun _ hk => hk.elim)); (case aP => exact rfl); (case aF => exact (fun _ _ => trivial)); (case aO => exact HR1.out); (case aB => exact HB1.out); (case aS => exact HB1.out.size); (case aL => omega); intro v1 w3 ho hb hg hat; have HO := hidF ho; have HB3 := hidF hb; clear ho hb hg hat))
        go_roundw
        case rel => exact ⟨i + 1, by go_num, by omega, HB3, hidF (by rw [HP.out, HSt.out]; exact HO.out)⟩
        case measure => simp [natOfV]; omega
    · have hie : i = e.length := by omega
      have HR2 : Hid (Kd.R Kd.string 9 wr w.heap.size (fun _ => True) _ (partsE e)) := hidF (by have := HR.out; rwa [hie, List.take_of_length_le (Nat.le_refl _)] at this)
      obtain ⟨A1, c1, rfl⟩ := Kd.R_slice HR2.out
      obtain ⟨A2, c2, h2, h3, h4⟩ := Kd.R_reads HR2.out
      injection h2 with h5 h6 h7
      subst h5; subst h7
      have HRD := hidF (And.intro h3 h4)
      have hii : ¬ (i : Int) < (e.length : Int) := by omega
      clear hie hlt hil HR h3 h4 h6
      go_wp2_with (go_at_call 52; ((with_reducible refine (xJoin.calls A1 c1 (partsE e) ⟨#[32]⟩ r _ HRD.out.2 HRD.out.1 HJ.out).mono ?_); rintro en w1 ⟨rfl, hb1⟩; have HB1 := hidF (HB.out.trans (hb1.mono HB.out.size)); clear hb1))
      exact bodyPost_ret (v := .string r) (by simp [results, Tryz.results25, go_sem, *]) rfl ⟨rfl, HB1.out⟩
end Go.Proofs.YtakcjiinchghaaaGreatDoor
end
section
namespace Go.Proofs.YtakcjiinchghaaaGreatDoor
set_option linter.unusedVariables false
set_option linter.unusedSimpArgs false
open Go.RowKit Go.Proofs.YtakcjiinchghaaaGreatDoorW.PrintWords
open PRS
def numsL (l : List UInt8) : List Int := l.map fun b => (b.toNat : Int)
theorem numsL_len (l : List UInt8) : (numsL l).length = l.length := by simp [numsL]
theorem numsL_app (l m : List UInt8) : numsL (l ++ m) = numsL l ++ numsL m := by simp [numsL]
theorem strOf_numsL (l : List UInt8) : strOfNums (numsL l) = ⟨l.toArray⟩ := by
  unfold strOfNums numsL
  rw [List.map_map]
  have : l.map ((fun n : Int => UInt8.ofNat n.toNat) ∘ fun b : UInt8 => (b.toNat : Int)) = l := by induction l <;> simp_all
  rw [this]
theorem ba_nil (s : ByteArray) : s ++ ⟨#[]⟩ = s := by apply ByteArray.ext; simp
theorem w64 {n : Int} (h0 : -9223372036854775808 ≤ n) (h1 : n ≤ 9223372036854775807) : wrap64 n = n := by unfold wrap64; omega
theorem wu64 {n : Int} (h0 : 0 ≤ n) (h1 : n < 18446744073709551616) : IntKind.u64.wrap n = n := by rw [IntKind.wrap_u64]; omega
/-- the digits, the last first -/
def rdig (u : Nat) : List UInt8 := (Lib.decDigits u).reverse
theorem rdig_lt {u : Nat} (h : u < 10) : rdig u = [UInt8.ofNat (48 + u)] := by unfold rdig; rw [Lib.decDigits, dif_pos h]; rfl
theorem rdig_ge {u : Nat} (h : ¬ u < 10) : rdig u = UInt8.ofNat (48 + u % 10) :: rdig (u / 10) := by unfold rdig; rw [Lib.decDigits, dif_neg h]; simp
theorem dig1 (u : Nat) : (IntKind.u64.wrap (48 + Int.tmod (u : Int) 10)) % 256 = ((UInt8.ofNat (48 + u % 10)).toNat : Int) := by
  have h1 : Int.tmod (u : Int) 10 = ((u % 10 : Nat) : Int) := rfl
  rw [h1, wu64 (by omega) (by omega)]
  have h2 : (UInt8.ofNat (48 + u % 10)).toNat = 48 + u % 10 := by simp; omega
  rw [h2]; omega
theorem dig2 (u : Nat) (h : u < 10) : (IntKind.u64.wrap (48 + (u : Int))) % 256 = ((UInt8.ofNat (48 + u)).toNat : Int) := by
  rw [wu64 (by omega) (by omega)]
  have h2 : (UInt8.ofNat (48 + u)).toNat = 48 + u := by simp; omega
  rw [h2]; omega
theorem dig3 (u : Nat) (h : u < 18446744073709551616) : IntKind.u64.wrap (Int.tdiv (u : Int) 10) = ((u / 10 : Nat) : Int) := by
  have h1 : Int.tdiv (u : Int) 10 = ((u / 10 : Nat) : Int) := rfl
  rw [h1, wu64 (by omega) (by omega)]
theorem l1_ev (L : List UInt8) (hL : L.length ≤ 100) : ∀ (i : Nat) (s : ByteArray), i ≤ L.length → s.size + i ≤ 1000 → Ev (fun k => freshetref01_digits.l1 k (numsL L) s ((i : Int) - 1)) (s ++ ⟨((L.take i).reverse).toArray⟩)
  | 0, s, _, _ => by
    refine Ev.step (f := fun _ => some s) (fun k => ?_) (by simpa [ba_nil] using Ev.now s)
    simp only [freshetref01_digits.l1]; rw [if_neg (by omega)]
  | i + 1, s, hi, hs => by
    have ih := l1_ev L hL i (s ++ ⟨#[L[i]]⟩) (by omega) (by simp [ByteArray.size_append]; show s.size + 1 + i ≤ 1000; omega)
    have e : s ++ ⟨((L.take (i + 1)).reverse).toArray⟩ = (s ++ ⟨#[L[i]]⟩) ++ ⟨((L.take i).reverse).toArray⟩ := by
      rw [List.take_succ_eq_append_getElem (by omega), List.reverse_append]; apply ByteArray.ext; simp [-List.take_append_getElem]
    rw [e]
    refine Ev.step (fun k => ?_) ih
    simp only [freshetref01_digits.l1]
    have h1 : ((i + 1 : Nat) : Int) - 1 = (i : Int) := by omega
    rw [h1, if_pos (by omega), if_pos (by omega), w64 (by omega) (by omega), if_pos (by omega), if_pos (by rw [numsL_len]; omega)]
    have h2 : ((numsL L).take ((i : Int) + 1).toNat).drop ((i : Int)).toNat = numsL [L[i]] := by
      rw [show ((i : Int) + 1).toNat = i + 1 by omega, show ((i : Int)).toNat = i by omega]
      simp only [numsL, ← List.map_take, ← List.map_drop]
      rw [List.take_succ_eq_append_getElem (by omega), List.drop_append_of_le_length (by simp; omega), List.drop_of_length_le (by simp; omega)]; rfl
    rw [h2]
    simp only [Option.bind_some, strOf_numsL]
    rw [if_pos (by show s.size + 1 ≤ _; omega), w64 (by omega) (by omega)]
theorem j2_ev (L : List UInt8) (hL : L.length ≤ 100) : Ev (fun k => freshetref01_digits.j2 k (numsL L)) ⟨L.reverse.toArray⟩ := by
  have h := l1_ev L hL L.length ⟨#[]⟩ (Nat.le_refl _) (by show 0 + _ ≤ _; omega)
  rw [List.take_length] at h
  have e : (⟨#[]⟩ ++ ⟨L.reverse.toArray⟩ : ByteArray) = ⟨L.reverse.toArray⟩ := by apply ByteArray.ext; simp
  rw [e] at h
  refine Ev.step (fun k => ?_) h
  simp only [freshetref01_digits.j2]
  rw [numsL_len, w64 (by omega) (by omega)]
theorem l0_end (n : Int) (u : Nat) (l : List UInt8) (hu : u < 10) (hl : l.length ≤ 30) :
    Ev (fun k => freshetref01_digits.l0 k n u (numsL l)) ⟨(l ++ rdig u ++ (if n < 0 then [45] else [])).reverse.toArray⟩ := by
  rw [rdig_lt hu]
  have e1 : numsL l ++ [(IntKind.u64.wrap (48 + (u : Int))) % 256] = numsL (l ++ [UInt8.ofNat (48 + u)]) := by rw [dig2 u hu, numsL_app]; rfl
  by_cases hn : n < 0
  · rw [if_pos hn]
    refine Ev.step (fun k => ?_) (j2_ev (l ++ [UInt8.ofNat (48 + u)] ++ [45]) (by simp; omega))
    simp only [freshetref01_digits.l0]
    rw [if_neg (by omega), if_pos (by rw [numsL_len]; omega), e1]
    simp only [Option.bind_some]
    rw [if_pos hn, if_pos (by rw [numsL_len]; simp; omega), numsL_app (l ++ [UInt8.ofNat (48 + u)])]; rfl
  · rw [if_neg hn, List.append_nil]
    refine Ev.step (fun k => ?_) (j2_ev (l ++ [UInt8.ofNat (48 + u)]) (by simp; omega))
    simp only [freshetref01_digits.l0]
    rw [if_neg (by omega), if_pos (by rw [numsL_len]; omega), e1]
    simp only [Option.bind_some]
    rw [if_neg hn]
theorem l0_ev (n : Int) : ∀ (d u : Nat) (l : List UInt8), u < 10 ^ (d + 1) → u < 18446744073709551616 → l.length + d ≤ 30 →
    Ev (fun k => freshetref01_digits.l0 k n u (numsL l)) ⟨(l ++ rdig u ++ (if n < 0 then [45] else [])).reverse.toArray⟩
  | 0, u, l, h, _, hl => l0_end n u l (by simpa using h) (by omega)
  | d + 1, u, l, h, h64, hl => by
    by_cases hu : u < 10
    · exact l0_end n u l hu (by omega)
    · have ih := l0_ev n d (u / 10) (l ++ [UInt8.ofNat (48 + u % 10)]) (by rw [Nat.pow_succ] at h; omega) (by omega) (by simp; omega)
      rw [rdig_ge hu]
      rw [show l ++ (UInt8.ofNat (48 + u % 10) :: rdig (u / 10)) = l ++ [UInt8.ofNat (48 + u % 10)] ++ rdig (u / 10) by simp]
      refine Ev.step (fun k => ?_) ih
      simp only [freshetref01_digits.l0]
      rw [if_pos (by omega), if_pos (by rw [numsL_len]; omega), dig3 u h64, dig1, numsL_app]; rfl
theorem digits_ev (n : Int) (h : I64 n) : Ev (fun k => freshetref01_digits.f k n) ⟨(Lib.itoa n).toArray⟩ := by
  obtain ⟨h0, h1⟩ := h
  have key : ∀ u : Nat, u < 10000000000000000000 → Ev (fun k => freshetref01_digits.j0 k n u) ⟨(rdig u ++ (if n < 0 then [45] else [])).reverse.toArray⟩ := fun u hu => by
    have := l0_ev n 19 u [] (by omega) (by omega) (by simp)
    rw [List.nil_append] at this
    refine Ev.step (fun k => ?_) this
    simp only [freshetref01_digits.j0]; rfl
  unfold Lib.itoa
  by_cases hn : n < 0
  · have k := key n.natAbs (by omega)
    rw [if_pos hn] at k ⊢
    have e : (rdig n.natAbs ++ [45]).reverse = 45 :: Lib.decDigits n.natAbs := by simp [rdig]
    rw [e] at k
    refine Ev.congr (fun m => ?_) k
    simp only [freshetref01_digits.f]
    rw [if_pos hn]
    congr 1
    rw [IntKind.wrap_u64, IntKind.wrap_u64]; omega
  · have k := key n.toNat (by omega)
    rw [if_neg hn, List.append_nil] at k
    rw [if_neg hn]
    have e : (rdig n.toNat).reverse = Lib.decDigits n.toNat := by simp [rdig]
    rw [e] at k
    refine Ev.congr (fun m => ?_) k
    simp only [freshetref01_digits.f]
    rw [if_neg hn]
    congr 1
    rw [IntKind.wrap_u64]; omega
theorem bt_at_nat (s : ByteArray) (k : Nat) (h : k < s.size) : bt s (k : Int) = (s[k].toNat : Int) := by
  unfold bt; rw [dif_pos (by simpa using h)]; rfl
theorem bt_hex (n : Nat) (h : n < 16) : bt (⟨#[48, 49, 50, 51, 52, 53, 54, 55, 56, 57, 97, 98, 99, 100, 101, 102]⟩ : ByteArray) (n : Int) = ((hexD n).toNat : Int) := by
  have : ∀ n : Fin 16, bt (⟨#[48, 49, 50, 51, 52, 53, 54, 55, 56, 57, 97, 98, 99, 100, 101, 102]⟩ : ByteArray) (n.1 : Int) = ((hexD n.1).toNat : Int) := by decide +kernel
  exact this ⟨n, h⟩
theorem quoted_ev (s : ByteArray) (hs : s.size ≤ 4096) : Ev (fun k => freshetref01_Quoted.f k s) ⟨(quotedL s.data.toList).toArray⟩ := by
  have main : ∀ d k : Nat, k + d = s.size → Ev (fun m => freshetref01_Quoted.l0 m s (numsL (partQ s k)) (k : Int)) ⟨(quotedL s.data.toList).toArray⟩ := by
    intro d
    induction d with
    | zero =>
      intro k hk
      obtain rfl : k = s.size := by omega
      have hl := partQ_len s s.size (Nat.le_refl _)
      have hq : partQ s s.size ++ [39] = quotedL s.data.toList := by
        have : s.data.toList.take s.size = s.data.toList := List.take_of_length_le (by simp)
        simp only [partQ, quotedL, this, List.cons_append]
      refine Ev.step (f := fun _ => some _) (fun m => ?_) (Ev.now _)
      simp only [freshetref01_Quoted.l0]
      rw [if_neg (by omega), if_pos (by rw [numsL_len]; omega), show numsL (partQ s s.size) ++ [39] = numsL (quotedL s.data.toList) by rw [← hq, numsL_app]; rfl, strOf_numsL]
    | succ d ih =>
      intro k hk
      have hlt : k < s.size := by omega
      have hl := partQ_len s k (by omega)
      have hn := ih (k + 1) (by omega)
      have hb := bt_at_nat s k hlt
      have hc := s[k].toNat_lt
      rw [partQ_succ s k hlt, numsL_app] at hn
      have h1 : ((k + 1 : Nat) : Int) = wrap64 ((k : Int) + 1) := by rw [w64 (by omega) (by omega)]; omega
      rw [h1] at hn
      have j1 : ∀ b, b = (decide (s[k].toNat < 32) || decide (126 < s[k].toNat) || s[k] == 92) → Ev (fun m => freshetref01_Quoted.j1 m s (numsL (partQ s k)) (k : Int) (s[k].toNat : Int) b) ⟨(quotedL s.data.toList).toArray⟩ := by
        intro b hbb
        refine Ev.step (fun m => ?_) hn
        simp only [freshetref01_Quoted.j1]
        cases b with
        | true =>
          have hodd : oddB s[k] = true := hbb.symm
          have h39 : s[k] ≠ 39 := by rintro e; rw [e] at hodd; revert hodd; decide
          have he : escL s[k] = [92, 120, hexD (s[k].toNat / 16), hexD (s[k].toNat % 16)] := by unfold escL; rw [if_neg h39, if_pos hodd]
          have ha := and15 s[k]
          have e1 : ((s[k].toNat : Int) / 16) = ((s[k].toNat / 16 : Nat) : Int) := by simp
          have e2 : ((s[k].toNat : Int) % 16) = ((s[k].toNat % 16 : Nat) : Int) := by simp
          rw [if_pos rfl, ha, e1, e2, if_pos (by omega), if_pos (by omega), if_pos (by omega), if_pos (by omega), bt_hex _ (by omega), bt_hex _ (by omega)]
          simp only [Option.bind_some]
          rw [if_pos (by rw [numsL_len]; simp; omega), he]; rfl
        | false =>
          have hodd : oddB s[k] = false := hbb.symm
          rw [if_neg (by simp), if_pos (by rw [numsL_len]; omega)]
          simp only [Option.bind_some]
          by_cases h39 : s[k] = 39
          · have he : escL s[k] = [39, 39] := by unfold escL; rw [if_pos h39]
            rw [if_pos (by rw [h39]; rfl), if_pos (by simp [numsL_len]; omega), he, h39, List.append_assoc]; rfl
          · have he : escL s[k] = [s[k]] := by unfold escL; rw [if_neg h39, if_neg (by simp [hodd])]
            rw [if_neg (fun e => h39 (UInt8.toNat_inj.1 (by show _ = 39; omega))), he]; rfl
      have p92 : ((s[k].toNat : Int) == 92) = (s[k] == 92) := by
        rw [Bool.eq_iff_iff]; simp only [beq_iff_eq, ← UInt8.toNat_inj]
        show ((s[k].toNat : Int) = 92) ↔ s[k].toNat = 92
        omega
      by_cases a1 : s[k].toNat < 32
      · refine Ev.step (fun m => ?_) (j1 true (by simp [a1]))
        simp only [freshetref01_Quoted.l0]
        rw [if_pos (by omega), if_pos (by omega), hb, if_pos (by omega)]
      · by_cases a2 : 126 < s[k].toNat
        · refine Ev.step (fun m => ?_) (j1 true (by simp [a2]))
          simp only [freshetref01_Quoted.l0]
          rw [if_pos (by omega), if_pos (by omega), hb, if_neg (by omega), if_pos (by omega)]
        · refine Ev.step (fun m => ?_) (j1 (s[k] == 92) (by simp [a1, a2]))
          simp only [freshetref01_Quoted.l0]
          rw [if_pos (by omega), if_pos (by omega), hb, if_neg (by omega), if_neg (by omega), p92]
  exact main s.size 0 (by omega)
theorem hexP_cons (n u : Nat) : hexP (n + 1) u = hexD (u / 16 ^ n % 16) :: hexP n u := by
  induction n generalizing u with
  | zero => simp [hexP]
  | succ n ih =>
    rw [hexP, ih (u / 16)]
    simp only [hexP, List.cons_append]
    rw [Nat.div_div_eq_div_mul, Nat.pow_succ, Nat.mul_comm]
theorem hex_cut (n : Nat) (h : n < 16) : (⟨#[48, 49, 50, 51, 52, 53, 54, 55, 56, 57, 97, 98, 99, 100, 101, 102]⟩ : ByteArray).extract n (n + 1) = ⟨#[hexD n]⟩ := by
  have : ∀ n : Fin 16, (⟨#[48, 49, 50, 51, 52, 53, 54, 55, 56, 57, 97, 98, 99, 100, 101, 102]⟩ : ByteArray).extract n.1 (n.1 + 1) = ⟨#[hexD n.1]⟩ := by decide +kernel
  exact this ⟨n, h⟩
theorem show_l0_ev (f : Nat) (hf : f < 18446744073709551616) (a b : Int) (t : ByteArray) : ∀ (j : Nat) (s : ByteArray), j ≤ 16 → s.size + j ≤ 100 → Ev (fun k => freshetref01_Show.l0 k s (4 * (j : Int) - 4) a b f t) (s ++ ⟨(hexP j f).toArray⟩)
  | 0, s, _, _ => by
    refine Ev.step (f := fun _ => some s) (fun k => ?_) (by simpa [hexP, ba_nil] using Ev.now s)
    simp only [freshetref01_Show.l0]; rw [if_neg (by omega)]
  | j + 1, s, hj, hs => by
    have ih := show_l0_ev f hf a b t j (s ++ ⟨#[hexD (f / 16 ^ j % 16)]⟩) (by omega) (by simp [ByteArray.size_append]; show s.size + 1 + j ≤ 100; omega)
    have e : s ++ ⟨(hexP (j + 1) f).toArray⟩ = (s ++ ⟨#[hexD (f / 16 ^ j % 16)]⟩) ++ ⟨(hexP j f).toArray⟩ := by
      rw [hexP_cons]; apply ByteArray.ext; simp
    rw [e]
    refine Ev.step (fun k => ?_) ih
    simp only [freshetref01_Show.l0]
    have h1 : 4 * ((j + 1 : Nat) : Int) - 4 = 4 * (j : Int) := by omega
    rw [h1, wu64 (by omega) (by omega)]
    have h2 : shr .u64 (f : Int) (4 * (j : Int)) = ((f / 16 ^ j : Nat) : Int) := by
      unfold shr
      have : min (4 * (j : Int)).toNat IntKind.u64.bits = 4 * j := by
        rw [show (4 * (j : Int)).toNat = 4 * j by omega]; exact Nat.min_eq_left (by show _ ≤ 64; omega)
      rw [this, show (2 : Int) ^ (4 * j) = ((16 ^ j : Nat) : Int) by rw [Int.pow_mul]; simp]
      simp
    have hlt : f / 16 ^ j < 18446744073709551616 := Nat.lt_of_le_of_lt (Nat.div_le_self _ _) hf
    rw [h2, andm _ hlt]
    generalize hp : f / 16 ^ j % 16 = p at *
    have hp16 : p < 16 := by omega
    rw [if_pos (by omega), if_pos (by omega), if_pos (by omega), wu64 (by omega) (by omega), if_pos (by omega), if_pos (by omega)]
    rw [show ((p : Int)).toNat = p by omega, show ((p : Int) + 1).toNat = p + 1 by omega, hex_cut p hp16]
    rw [if_pos (by show s.size + 1 ≤ _; omega), w64 (by omega) (by omega)]
theorem rShow_ev (k n f : Int) (t : ByteArray) (hn : I64 n) (hf : U64 f) : Ev (fun m => freshetref01_Show.f m k n f t) ⟨(showL k n f t).toArray⟩ := by
  have hs : xrSound.f k n f t = some (soundV k n f t) := by unfold xrSound.f; exact if_pos hf
  unfold freshetref01_Show.f showL
  rw [hs]
  simp only [Option.bind_some]
  cases h : soundV k n f t with
  | false => simpa using Ev.now _
  | true =>
    simp only [Bool.not_true, Bool.false_eq_true, if_false, if_true]
    by_cases k0 : k = 0
    · simp only [k0, if_true]; exact Ev.now _
    · simp only [k0, if_false]
      by_cases k1 : k = 1
      · simp only [k1, if_true]
        by_cases n1 : n = 1
        · simp only [n1, if_true]; exact Ev.now _
        · simp only [n1, if_false]
          have : (n == 1) = false := by simpa using n1
          rw [this]; exact Ev.now _
      · simp only [k1, if_false]
        by_cases k2 : k = 2
        · simp only [k2, if_true]; simpa using digits_ev n hn
        · simp only [k2, if_false]
          by_cases k4 : k = 4
          · simp only [k4, if_true]
            subst k4
            have e := h
            simp [soundV, eqV] at e
            obtain ⟨⟨rfl, rfl⟩, h4⟩ := e
            simpa using quoted_ev t h4
          · simp only [k4, if_false]
            obtain ⟨h0, h1⟩ := hf
            obtain ⟨m, rfl⟩ := Int.eq_ofNat_of_zero_le h0
            have := show_l0_ev m (by omega) k n t 16 ⟨#[48, 120]⟩ (by omega) (by decide)
            have e : (⟨#[48, 120]⟩ ++ ⟨(hexP 16 m).toArray⟩ : ByteArray) = ⟨([48, 120] ++ hexP 16 m).toArray⟩ := by apply ByteArray.ext; simp
            rw [e] at this
            exact this
end Go.Proofs.YtakcjiinchghaaaGreatDoor
end
section
namespace Go.Proofs.YtakcjiinchghaaaGreatDoor
set_option linter.unusedVariables false
set_option linter.unusedSimpArgs false
open Go.RowKit Go.Proofs.YtakcjiinchghaaaGreatDoorW.PrintWords Go.Proofs.YtakcjiinchghaaaGreatDoorW.PrintLast
def xrShow.f (k n f : Int) (t : ByteArray) : Option ByteArray := if (-9223372036854775808 ≤ n ∧ n ≤ 9223372036854775807) ∧ (0 ≤ f ∧ f < 18446744073709551616) then some ⟨(showL k n f t).toArray⟩ else none
theorem xrShow.calls (k n f : Int) (t : ByteArray) (r : ByteArray) (w : World) (h : xrShow.f k n f t = some r) :
    Calls Tryz.prog 54 #[.agg #[.int .i64 k, .int .i64 n, .int .u64 f, .string t]] w fun e w' => e = .returned (.string r) ∧ Below w.heap.size w w' := by
  obtain ⟨⟨hn, hf⟩, rfl⟩ := ext_of h
  obtain ⟨m, hm⟩ := (rShow_ev k n f t hn hf).rounds
  exact PRS.freshetref01_Show.calls m k n f t _ w hm
end Go.Proofs.YtakcjiinchghaaaGreatDoor
end
section
namespace Go.Proofs.YtakcjiinchghaaaGreatDoor
set_option linter.unusedVariables false
set_option linter.unusedSimpArgs false
open Go.RowKit Go.Proofs.YtakcjiinchghaaaGreatDoorW.PrintWords Go.Proofs.YtakcjiinchghaaaGreatDoorW.PrintLast PRW Go.Sort
theorem grow_none (w : World) : grow w #[] = w := by simp [grow]
theorem sortI_c {W : World} {base : Nat} {A : Option Addr} {n c : Nat} {xs : List Int} {ok : Nat → Prop} (hR : Kd.R (Kd.int .i64) 3 W base ok (.slice A n c) xs) (hl : xs.length ≤ 2513169434843) :
    Calls Tryz.prog 47 #[.slice A n c] W fun e w' => e = .returned (.tuple #[]) ∧ Kd.R (Kd.int .i64) 3 w' base ok (.slice A n c) (xs.mergeSort fun x y => decide (x ≤ y)) ∧ Below base W w' := by
  obtain ⟨hn, hnc, _⟩ := Kd.R_reads' hR
  subst hn
  have hok := hR.1
  have ho := Kd.own_of_R hR
  rcases ho.2 with ⟨h0, h1⟩ | ⟨g, cap, cur, hv, hg, hb, h1, h2, h3, h4⟩
  · injection h0 with a1 a2 a3
    have : xs = [] := List.eq_nil_of_length_eq_zero a2
    subst this
    refine (Tryz.slices_Sort_int_none A c W).mono ?_
    rintro e w' ⟨rfl, rfl⟩
    exact ⟨rfl, by simpa using hR, Below.refl _ _⟩
  · injection hv with a1 a2 a3
    subst a1; subst a3
    have hlt : g < W.heap.size := (Array.getElem?_eq_some_iff.1 hb).1
    have hx : cur.toList.take xs.length = xs.map (Value.int .i64) := by simpa [encs] using h4
    refine (Tryz.slices_Sort_int g 0 _ xs W (holds_of_blockI hb hx) hlt (by omega)).mono ?_
    rintro e w' ⟨rfl, m, os, rfl⟩
    have hlen : (xs.mergeSort fun x y => decide (x ≤ y)).length = xs.length := List.length_mergeSort _
    refine ⟨rfl, Kd.R_of_own (by rw [hlen]; exact ownsRow_sortedI (ss := xs) hlen hg hb h1 h2 h3) hok, ?_⟩
    exact (Below.refl _ _).grown (grownBy_sortedI _) (by omega) (fun k h => by cases h; exact hg)
theorem compactUp_len (d : Array Int) : ∀ m, (Lib.compactUpTo d m).length ≤ m
  | 0 => by simp [Lib.compactUpTo]
  | m + 1 => by
    rw [Lib.compactUpTo_succ, List.length_append]
    have := compactUp_len d m
    split <;> simp <;> omega
theorem compact_len (xs : List Int) : (Lib.compact xs).length ≤ xs.length := compactUp_len _ _
theorem compactI_c {W : World} {base : Nat} {A : Option Addr} {n c : Nat} {xs : List Int} {ok : Nat → Prop} (hR : Kd.R (Kd.int .i64) 3 W base ok (.slice A n c) xs) (hl : xs.length ≤ 2513169434843) :
    Calls Tryz.prog 48 #[.slice A n c] W fun e w' => ∃ v, e = .returned v ∧ Kd.R (Kd.int .i64) 3 w' base ok v (Lib.compact xs) ∧ Below base W w' := by
  obtain ⟨hn, hnc, _⟩ := Kd.R_reads' hR
  subst hn
  have hok := hR.1
  have ho := Kd.own_of_R hR
  rcases ho.2 with ⟨h0, h1⟩ | ⟨g, cap, cur, hv, hg, hb, h1, h2, h3, h4⟩
  · injection h0 with a1 a2 a3
    have : xs = [] := List.eq_nil_of_length_eq_zero a2
    subst this
    refine (Tryz.slices_Compact_int_empty A c W).mono ?_
    rintro e w' ⟨rfl, rfl⟩
    exact ⟨_, rfl, hR, Below.refl _ _⟩
  · injection hv with a1 a2 a3
    subst a1; subst a3
    have hlt : g < W.heap.size := (Array.getElem?_eq_some_iff.1 hb).1
    have hx : cur.toList.take xs.length = xs.map (Value.int .i64) := by simpa [encs] using h4
    refine (Tryz.slices_Compact_int g 0 _ xs W (holds_of_blockI hb hx) (by omega) hnc).mono ?_
    rintro e w' ⟨rfl, q, rfl⟩
    have hle := compact_len xs
    obtain ⟨ts, hts⟩ : ∃ ts, Lib.compact xs ++ List.replicate (xs.length - (Lib.compact xs).length) 0 = ts := ⟨_, rfl⟩
    have hlen : ts.length = xs.length := by rw [← hts]; simp; omega
    rw [hts]
    have key : Kd.R (Kd.int .i64) 3 (grow (putRow (Value.int .i64) (Sort.ahead W q) g 0 ts.toArray) #[]) base ok (.slice (some ⟨g, 0, none⟩) xs.length c) ts := Kd.R_of_own (by rw [hlen]; exact ownsRow_sortedI (ss := xs) hlen hg hb h1 h2 h3) hok
    rw [grow_none] at key
    have hB := (Below.refl base W).grown (grownBy_sortedI (w := W) (g := g) (n := q) (os := #[]) ts.toArray) (by omega) (fun k h => by cases h; exact hg)
    rw [grow_none] at hB
    refine ⟨_, rfl, ?_, hB⟩
    have := Kd.R_take (m := (Lib.compact xs).length) key (by omega)
    have e9 : ts.take (Lib.compact xs).length = Lib.compact xs := by rw [← hts, List.take_left]
    rwa [e9] at this
end Go.Proofs.YtakcjiinchghaaaGreatDoor
end
section
namespace Go.Proofs.YtakcjiinchghaaaGreatDoor
set_option linter.unusedVariables false
set_option linter.unusedSimpArgs false
open Go.RowKit Go.Proofs.YtakcjiinchghaaaGreatDoorW.PrintWords Go.Proofs.YtakcjiinchghaaaGreatDoorW.PrintLast PRW
/-- the columns that steps name, in their order -/
def namesE (e : List S41) : List Int := (e.filter fun d => decide (d.f0 = 2)).map fun d => d.f1
def colsE (e : List S41) : List Int := Lib.compact ((namesE e).mergeSort fun x y => decide (x ≤ y))
theorem names_len (e : List S41) : (namesE e).length ≤ e.length := by unfold namesE; rw [List.length_map]; exact List.length_filter_le _ _
theorem names_take {e : List S41} {i : Nat} {d : S41} (hd : e[i]? = some d) : namesE (e.take (i + 1)) = namesE (e.take i) ++ (if d.f0 = 2 then [d.f1] else []) := by
  have hi : i < e.length := (List.getElem?_eq_some_iff.1 hd).1
  have he : e[i] = d := (List.getElem?_eq_some_iff.1 hd).2
  unfold namesE
  rw [List.take_succ_eq_append_getElem hi, List.filter_append, List.map_append, he]
  split <;> rename_i h <;> simp [h]
theorem infoI : (Tryz.prog.info? 3).map (fun i => (i.zero, i.size, i.bytes)) = some (some (.int .i64 0), 1, 8) := by kernel_rfl
set_option maxRecDepth 100000 in
set_option maxHeartbeats 8000000 in
theorem cols_c (A : Option Addr) (c : Nat) (e : List S41) (w : World) (hC : Kd.C k41 w A e.length e) (hl : e.length ≤ 2513169434843) :
    Calls Tryz.prog 23 #[.slice A e.length c] w fun en w' => ∃ v, en = .returned v ∧ Kd.R (Kd.int .i64) 3 w' w.heap.size (fun _ => True) v (colsE e) ∧ Below w.heap.size w w' := by
  have HC := hidF hC
  clear hC
  go_enter Tryz.func23, Tryz.ntmps23
  go_wp2
  go_loopw [3, 8] (fun v3 v wr => ∃ i : Nat, v = .int .i64 (i : Int) ∧ i ≤ e.length ∧ Hid (Below w.heap.size w wr) ∧ Hid (Kd.R (Kd.int .i64) 3 wr w.heap.size (fun _ => True) v3 (namesE (e.take i)))) (fun _ v _ => e.length - natOfV v)
  case atStart => exact ⟨0, rfl, by omega, hidF (Below.refl _ _), hidF (Kd.R_nil _ _ _ _ _)⟩
  case round =>
    obtain ⟨i, rfl, hil, HB, HR⟩ := hrel
    by_cases hlt : i < e.length
    · obtain ⟨d, hd⟩ : ∃ d, e[i]? = some d := ⟨_, List.getElem?_eq_getElem hlt⟩
      have rdd : rd_T41 e (i : Int) = d := by
        unfold rd_T41
        simp only [Int.toNat_natCast, List.getD_eq_getElem?_getD]
        rw [hd]; rfl
      obtain ⟨ad, ea, k0, k1, k2, k3, k4, k5⟩ := at_T41 (Kd.C_below HC.out HB.out) (i : Int) (by omega) (by omega)
      cases ea
      rw [rdd] at k0 k1 k2 k3 k4 k5
      simp only [Int.toNat_natCast] at k0 k1 k2 k3 k4 k5
      have hii : (i : Int) < (e.length : Int) := by omega
      have hwle := HB.out.size
      have HN := hidF (names_take hd)
      have hnl : (namesE (e.take i)).length ≤ i := Nat.le_trans (names_len _) (by simp; omega)
      by_cases h2 : d.f0 = 2
      · rw [if_pos h2] at HN
        obtain ⟨A1, c1, rfl⟩ := Kd.R_slice HR.out
        have e2 : (d.f0 == 2) = true := beq_iff_eq.2 h2
        obtain ⟨W1, hW1⟩ : ∃ W1, wr.alloc (.cells #[.int .i64 d.f0, .int .i64 d.f1, .int .i64 d.f2.f0, .int .i64 d.f2.f1, .int .u64 d.f2.f2, .string d.f2.f3] 41) = W1 := ⟨_, rfl⟩
        obtain ⟨D, hD⟩ : ∃ D, wr.heap.size = D := ⟨_, rfl⟩
        have hDz : w.heap.size ≤ W1.heap.size := by rw [← hW1]; simp; omega
        have HBa := hidF (show Below w.heap.size w W1 by rw [← hW1]; exact HB.out.alloc HB.out.size _)
        have HRa := hidF (show Kd.R (Kd.int .i64) 3 W1 w.heap.size (fun _ => True) _ (namesE (e.take i)) by rw [← hW1]; exact Kd.R_alloc HR.out _)
        have m0 : W1.cell? ⟨D, 0, none⟩ = some (.int .i64 d.f0) := by rw [← hW1, ← hD]; exact (blk_cell (heap_alloc_new _ _) 0).trans rfl
        have m1 : W1.cell? ⟨D, 1, none⟩ = some (.int .i64 d.f1) := by rw [← hW1, ← hD]; exact (blk_cell (heap_alloc_new _ _) 1).trans rfl
        clear hd rdd h2
        go_wp2_with (first | ((with_reducible refine gate_dst (N := 19) rfl ?_); refine Kd.R_append (Kd.int .i64) (w0 := w) w.heap.size rfl (.tmp 15) (.tmp 18) 39 3 (.int .i64 0) 8 rfl Tryz.underlying39 infoI rfl (by decide) (by omega) (.slice A1 _ c1) (namesE (e.take i)) d.f1 [.int .i64 d.f1] (fun _ => True) (fun _ => False) rfl rfl ?aP (fun _ hk => hk.elim) ?aF ?aO ?aB ?aS ?aL ?_; (case aP => exact rfl); (case aF => exact (fun _ _ => trivial)); (case aO => exact (by (with_reducible repeat (first | apply Kd.R_alloc | apply Kd.R_drewN | apply Kd.R_drew)); exact HRa.out)); (case aB => exact HBa.out); (case aS => exact hDz); (case aL => omega); intro v1 w1 ho hb hg hat; have HO := hidF ho; have HB1 := hidF hb; clear ho hb hg hat))
        go_roundw
        case rel => exact ⟨i + 1, by go_num, by omega, HB1, hidF (by rw [HN.out]; exact HO.out)⟩
        case measure => simp [natOfV]; omega
      · rw [if_neg h2, List.append_nil] at HN
        have e2 : (d.f0 == 2) = false := beq_eq_false_iff_ne.2 h2
        clear hd rdd h2
        go_wp2_with fail
        go_roundw
        case rel => exact ⟨i + 1, by go_num, by omega, hidF (HB.out.alloc HB.out.size _), hidF (by rw [HN.out]; exact Kd.R_alloc HR.out _)⟩
        case measure => simp [natOfV]; omega
    · have hie : i = e.length := by omega
      have HR2 : Hid (Kd.R (Kd.int .i64) 3 wr w.heap.size (fun _ => True) _ (namesE e)) := hidF (by have := HR.out; rwa [hie, List.take_of_length_le (Nat.le_refl _)] at this)
      have hnl := hidF (Nat.le_trans (names_len e) hl)
      obtain ⟨A1, c1, rfl⟩ := Kd.R_slice HR2.out
      have hii : ¬ (i : Int) < (e.length : Int) := by omega
      clear hie hlt hil HR
      go_wp2_with (first
        | (go_at_call 47; ((with_reducible refine (sortI_c HR2.out hnl.out).mono ?_); rintro en w1 ⟨rfl, h1, hb1⟩; have HR3 := hidF h1; have HB1 := hidF hb1; clear h1 hb1))
        | (go_at_call 48; ((with_reducible refine (compactI_c HR3.out (by rw [List.length_mergeSort]; exact hnl.out)).mono ?_); rintro en w2 ⟨v2, rfl, h1, hb1⟩; have HR4 := hidF h1; have HB2 := hidF hb1; clear h1 hb1)))
      exact bodyPost_ret (v := v2) (by simp [results, Tryz.results23, go_sem, *]) rfl ⟨_, rfl, HR4.out, HB.out.trans (HB1.out.trans HB2.out)⟩
end Go.Proofs.YtakcjiinchghaaaGreatDoor
end
section
namespace Go.Proofs.YtakcjiinchghaaaGreatDoor
set_option linter.unusedVariables false
set_option linter.unusedSimpArgs false
open Go.RowKit Go.Proofs.YtakcjiinchghaaaGreatDoorW.PrintWords Go.Proofs.YtakcjiinchghaaaGreatDoorW.PrintLast PRW
theorem compact_up (zs : List Int) (hs : zs.Pairwise (· ≤ ·)) : ∀ m, m ≤ zs.length → (Lib.compactUpTo zs.toArray m).Pairwise (· < ·) ∧ ∀ x, x ∈ Lib.compactUpTo zs.toArray m ↔ ∃ j, j < m ∧ zs.toArray[j]! = x
  | 0, _ => by
    have h : Lib.compactUpTo zs.toArray 0 = [] := rfl
    rw [h]
    exact ⟨List.Pairwise.nil, fun x => ⟨fun hx => absurd hx List.not_mem_nil, fun ⟨j, hj, _⟩ => by omega⟩⟩
  | m + 1, hm => by
    obtain ⟨h1, h2⟩ := compact_up zs hs m (by omega)
    have le : ∀ i j : Nat, i ≤ j → j < zs.length → zs.toArray[i]! ≤ zs.toArray[j]! := fun i j hij hj => by
      rw [getElem!_pos zs.toArray i (by simp; omega), getElem!_pos zs.toArray j (by simp; omega), List.getElem_toArray, List.getElem_toArray]
      by_cases e : i = j
      · subst e; omega
      · exact List.pairwise_iff_getElem.1 hs i j (by omega) hj (by omega)
    rw [Lib.compactUpTo_succ]
    cases hk : Lib.keeps zs.toArray m
    · rw [if_neg Bool.false_ne_true, List.append_nil]
      refine ⟨h1, fun x => ?_⟩
      rw [h2]
      have hne : ¬ (m = 0 ∨ zs.toArray[m]! ≠ zs.toArray[m - 1]!) := by
        unfold Lib.keeps at hk; exact of_decide_eq_false hk
      constructor
      · rintro ⟨j, hj, e⟩; exact ⟨j, by omega, e⟩
      · rintro ⟨j, hj, e⟩
        by_cases hjm : j = m
        · subst hjm
          refine ⟨j - 1, by omega, ?_⟩
          rw [← e]
          exact (Classical.not_not.1 (fun h => hne (.inr h))).symm
        · exact ⟨j, by omega, e⟩
    · rw [if_pos rfl]
      have hkp : m = 0 ∨ zs.toArray[m]! ≠ zs.toArray[m - 1]! := by unfold Lib.keeps at hk; exact of_decide_eq_true hk
      refine ⟨List.pairwise_append.2 ⟨h1, List.pairwise_singleton _ _, fun a ha b hb => ?_⟩, fun x => ?_⟩
      · obtain ⟨j, hj, rfl⟩ := (h2 a).1 ha
        obtain rfl := List.mem_singleton.1 hb
        have l1 := le j (m - 1) (by omega) (by omega)
        have l2 := le (m - 1) m (by omega) (by omega)
        rcases hkp with h | h
        · omega
        · omega
      · rw [List.mem_append, h2, List.mem_singleton]
        constructor
        · rintro (⟨j, hj, e⟩ | e)
          · exact ⟨j, by omega, e⟩
          · exact ⟨m, by omega, e.symm⟩
        · rintro ⟨j, hj, e⟩
          by_cases hjm : j = m
          · subst hjm; exact .inr e.symm
          · exact .inl ⟨j, by omega, e⟩
theorem cols_sorted (e : List S41) : ((namesE e).mergeSort fun x y => decide (x ≤ y)).Pairwise (· ≤ ·) := by
  have := List.pairwise_mergeSort (le := fun x y : Int => decide (x ≤ y)) (fun a b c h1 h2 => by simp at h1 h2 ⊢; omega) (fun a b => by simp; omega) (namesE e)
  exact this.imp fun h => by simpa using h
theorem cols_lt (e : List S41) : (colsE e).Pairwise (· < ·) := (compact_up _ (cols_sorted e) _ (Nat.le_refl _)).1
theorem cols_mem (e : List S41) (x : Int) : x ∈ colsE e ↔ ∃ d ∈ e, d.f0 = 2 ∧ d.f1 = x := by
  have h := (compact_up _ (cols_sorted e) _ (Nat.le_refl _)).2 x
  have h0 : x ∈ colsE e ↔ x ∈ namesE e := by
    unfold colsE Lib.compact
    rw [h, ← List.mem_mergeSort (l := namesE e) (le := fun x y : Int => decide (x ≤ y))]
    constructor
    · rintro ⟨j, hj, e⟩
      rw [getElem!_pos _ j (by simpa using hj), List.getElem_toArray] at e
      exact e ▸ List.getElem_mem _
    · intro hx
      obtain ⟨j, hj, e⟩ := List.mem_iff_getElem.1 hx
      exact ⟨j, hj, by rw [getElem!_pos _ j (by simpa using hj), List.getElem_toArray]; exact e⟩
  rw [h0]
  unfold namesE
  simp only [List.mem_map, List.mem_filter, decide_eq_true_eq]
  constructor
  · rintro ⟨d, ⟨h1, h2⟩, h3⟩; exact ⟨d, h1, h2, h3⟩
  · rintro ⟨d, h1, h2, h3⟩; exact ⟨d, ⟨h1, h2⟩, h3⟩
end Go.Proofs.YtakcjiinchghaaaGreatDoor
end
section
namespace Go.Proofs.YtakcjiinchghaaaGreatDoor
set_option linter.unusedVariables false
set_option linter.unusedSimpArgs false
open Go.RowKit Go.Proofs.YtakcjiinchghaaaGreatDoorW.PrintWords Go.Proofs.YtakcjiinchghaaaGreatDoorW.PrintLast PRW
/-- a number put into a rising list -/
def insE (n : Int) : List Int → List Int
  | [] => [n]
  | x :: t => if x = n then x :: t else if n < x then n :: x :: t else x :: insE n t
theorem insE_mem (n : Int) : ∀ (l : List Int) (x : Int), x ∈ insE n l ↔ x = n ∨ x ∈ l
  | [], x => by simp [insE]
  | y :: t, x => by
    rw [insE]
    split
    · rename_i h; subst h; simp
    · split
      · simp
      · rw [List.mem_cons, insE_mem n t x, List.mem_cons]
        constructor
        · rintro (h | h | h)
          · exact .inr (.inl h)
          · exact .inl h
          · exact .inr (.inr h)
        · rintro (h | h | h)
          · exact .inr (.inl h)
          · exact .inl h
          · exact .inr (.inr h)
theorem insE_lt (n : Int) : ∀ (l : List Int), l.Pairwise (· < ·) → (insE n l).Pairwise (· < ·)
  | [], _ => by simp [insE]
  | y :: t, h => by
    rw [List.pairwise_cons] at h
    rw [insE]
    split
    · exact List.pairwise_cons.2 h
    · split
      · rename_i h1
        refine List.pairwise_cons.2 ⟨fun a ha => ?_, List.pairwise_cons.2 h⟩
        rcases List.mem_cons.1 ha with rfl | ha
        · exact h1
        · have := h.1 a ha; omega
      · refine List.pairwise_cons.2 ⟨fun a ha => ?_, insE_lt n t h.2⟩
        rcases (insE_mem n t a).1 ha with rfl | ha
        · omega
        · exact h.1 a ha
theorem insE_len (n : Int) : ∀ (l : List Int), (insE n l).length ≤ l.length + 1
  | [] => by simp [insE]
  | y :: t => by
    rw [insE]
    have := insE_len n t
    split
    · simp
    · split <;> simp <;> omega
theorem rise_ext : ∀ (l m : List Int), l.Pairwise (· < ·) → m.Pairwise (· < ·) → (∀ x, x ∈ l ↔ x ∈ m) → l = m
  | [], [], _, _, _ => rfl
  | [], y :: m, _, _, h => absurd ((h y).2 (List.mem_cons_self ..)) List.not_mem_nil
  | x :: l, [], _, _, h => absurd ((h x).1 (List.mem_cons_self ..)) List.not_mem_nil
  | x :: l, y :: m, h1, h2, h => by
    rw [List.pairwise_cons] at h1 h2
    have hxy : x = y := by
      rcases List.mem_cons.1 ((h x).1 (List.mem_cons_self ..)) with e | e
      · exact e
      · rcases List.mem_cons.1 ((h y).2 (List.mem_cons_self ..)) with e' | e'
        · exact e'.symm
        · have := h2.1 x e; have := h1.1 y e'; omega
    subst hxy
    congr 1
    refine rise_ext l m h1.2 h2.2 fun z => ⟨fun hz => ?_, fun hz => ?_⟩
    · rcases List.mem_cons.1 ((h z).1 (List.mem_cons_of_mem _ hz)) with e | e
      · subst e; have := h1.1 z hz; omega
      · exact e
    · rcases List.mem_cons.1 ((h z).2 (List.mem_cons_of_mem _ hz)) with e | e
      · subst e; have := h2.1 z hz; omega
      · exact e
theorem insE_split (n : Int) (l : List Int) : ∀ i, i ≤ l.length → (∀ j (h : j < l.length), j < i → l[j] < n) → insE n l = l.take i ++ insE n (l.drop i)
  | 0, _, _ => by simp
  | i + 1, hi, h => by
    have hlt : i < l.length := by omega
    rw [insE_split n l i (by omega) (fun j hj h1 => h j hj (by omega)), List.drop_eq_getElem_cons hlt, insE]
    have h2 := h i hlt (by omega)
    rw [if_neg (by omega), if_neg (by omega), List.take_succ_eq_append_getElem hlt, List.append_assoc, List.singleton_append]
/-- how far the new row is: no number put yet; or put, and the rest is as it was -/
def WInv (l : List Int) (n : Int) (p : Bool) (X : List Int) (i : Nat) : Prop :=
  (p = false ∧ X = l.take i ∧ ∀ j (h : j < l.length), j < i → l[j] < n) ∨ (p = true ∧ X ++ l.drop i = insE n l ∧ ∀ j (h : j < l.length), i ≤ j → n < l[j])
theorem WInv.len {l : List Int} {n : Int} {p : Bool} {X : List Int} {i : Nat} (h : WInv l n p X i) (hi : i ≤ l.length) : X.length ≤ l.length + 1 := by
  rcases h with ⟨_, rfl, _⟩ | ⟨_, h, _⟩
  · simp; omega
  · have := congrArg List.length h
    have h2 := insE_len n l
    rw [List.length_append] at this
    omega
set_option maxRecDepth 100000 in
set_option maxHeartbeats 8000000 in
theorem with_c (A : Option Addr) (c : Nat) (l : List Int) (n : Int) (w : World) (hC : Kd.C (Kd.int .i64) w A l.length l) (hr : l.Pairwise (· < ·)) (hl : l.length ≤ 1000000) :
    Calls Tryz.prog 49 #[.slice A l.length c, .int .i64 n] w fun en w' => ∃ v, en = .returned v ∧ ((v = .slice A l.length c ∧ insE n l = l) ∨ Kd.R (Kd.int .i64) 3 w' w.heap.size (fun _ => True) v (insE n l)) ∧ Below w.heap.size w w' := by
  have HC := hidF hC
  have HP := hidF hr
  clear hC hr
  go_enter Tryz.func49, Tryz.ntmps49
  go_wp2_with (first | ((with_reducible refine gate_dst (N := 8) rfl ?_); refine Kd.R_lit (Kd.int .i64) _ 3 ?hg (N := 8) ?hd (xs := ([] : List Int)) (inner := []) (ok := fun _ => True) (okp := fun _ => True) ?hr ?hp (fun _ hk => hk) trivial (Below.refl _ _) (Nat.le_refl _) (by simp) ?_; (case hd => rfl); (case hg => rfl); (case hr => first | (go_simp; done) | (go_simp; rfl)); (case hp => exact Reps.none _ _); intro v0 w0 ho hb hg hn; clear hg hn; have HR0 := hidF ho; have HB0 := hidF hb; clear ho hb))
  go_loopw [5, 6, 7] (fun v5 v6 v wr => ∃ (i : Nat) (p : Bool) (X : List Int), v = .int .i64 (i : Int) ∧ v6 = .bool p ∧ i ≤ l.length ∧ Hid (WInv l n p X i) ∧ Hid (Below w.heap.size w wr) ∧ Hid (Kd.R (Kd.int .i64) 3 wr w.heap.size (fun _ => True) v5 X)) (fun _ _ v _ => l.length - natOfV v)
  case atStart => exact ⟨0, false, [], rfl, rfl, by omega, hidF (.inl ⟨rfl, rfl, fun j _ h => by omega⟩), HB0, HR0⟩
  case round =>
    clear HR0 HB0
    obtain ⟨i, p, X, rfl, rfl, hil, HI, HB, HR⟩ := hrel
    have hxl := HI.out.len hil
    obtain ⟨A1, c1, rfl⟩ := Kd.R_slice HR.out
    by_cases hlt : i < l.length
    · obtain ⟨ad, rfl, tw⟩ := Kd.at_int HC.out (i : Int) (by omega) (by omega)
      have t0 := (HB.out.cell (World.block_lt_of_cell? w _ tw)).trans tw
      obtain ⟨x, hx⟩ : ∃ x, l[i] = x := ⟨_, rfl⟩
      have hrd : rd l (i : Int) = x := by unfold rd; simp [hlt, hx]
      rw [hrd] at t0 tw
      simp only [Int.toNat_natCast] at t0 tw
      have HLT := hidF hlt
      have HX := hidF (fun (h : i < l.length) => (show l[i] = x from hx))
      have hii : (i : Int) < (l.length : Int) := by omega
      clear hrd hx
      by_cases h1 : x = n
      · have HQ : Hid (insE n l = l) := hidF (by
          rcases HI.out with ⟨_, _, h3⟩ | ⟨_, _, h3⟩
          · rw [insE_split n l i hil h3, List.drop_eq_getElem_cons hlt, insE, if_pos ((HX.out hlt).trans h1), ← List.drop_eq_getElem_cons hlt, List.take_append_drop]
          · have := h3 i hlt (Nat.le_refl _); rw [HX.out HLT.out] at this; omega)
        have e1 : (x == n) = true := beq_iff_eq.2 h1
        clear h1 hlt
        go_wp2_with fail
        exact bodyPost_ret (v := .slice (some ad) l.length c) (by simp [results, Tryz.results49, go_sem, *]) rfl ⟨_, rfl, .inl ⟨rfl, HQ.out⟩, HB.out⟩
      · have e1 : (x == n) = false := beq_eq_false_iff_ne.2 h1
        have HNE := hidF h1
        cases p
        · have HI2 : Hid (X = l.take i ∧ ∀ j (h : j < l.length), j < i → l[j] < n) := hidF (by
            rcases HI.out with ⟨_, h2, h3⟩ | ⟨h2, _, _⟩
            · exact ⟨h2, h3⟩
            · cases h2)
          by_cases h2 : n < x
          · have e2 : decide (n < x) = true := decide_eq_true h2
            have HI3 : Hid (WInv l n true (X ++ [n] ++ [x]) (i + 1)) := hidF (.inr ⟨rfl, by
              rw [insE_split n l i hil HI2.out.2, List.drop_eq_getElem_cons HLT.out, insE, HX.out HLT.out, if_neg HNE.out, if_pos h2, HI2.out.1]; simp, fun j hj h => by
              have := List.pairwise_iff_getElem.1 HP.out i j HLT.out hj (by omega)
              rw [HX.out HLT.out] at this; omega⟩)
            have hxl2 : (X ++ [n]).length ≤ l.length + 2 := by simp; omega
            clear h1 h2 hlt
            go_wp2_with (first
              | ((with_reducible refine gate_builtin (b := .append) (xs := #[.tmp 32, .tmp 34]) rfl ?_); at_builtin; refine Kd.R_append (Kd.int .i64) (w0 := w) w.heap.size ?h1 (.tmp 32) (.tmp 34) 39 3 (.int .i64 0) 8 ?h2 ?h3 ?h4 ?h5 ?h6 ?h7 (.slice A1 ((X).length) c1) (X) (n) [.int .i64 (n)] (fun _ => True) (fun _ => False) ?h8 ?h9 ?aP ?hk ?aF ?aO ?aB ?aS ?aL ?_; (case h1 => exact rfl); (case h2 => exact rfl); (case h3 => exact Tryz.underlying39); (case h4 => exact infoI); (case h5 => exact rfl); (case h6 => decide); (case h7 => omega); (case h8 => exact rfl); (case h9 => exact rfl); (case hk => exact (fun _ hk => hk.elim)); (case aP => exact rfl); (case aF => exact (fun _ _ => trivial)); (case aO => exact HR.out); (case aB => exact HB.out); (case aS => exact HB.out.size); (case aL => omega); intro v1 w3 ho hb hg hat; obtain ⟨A2, c2, rfl⟩ := Kd.R_slice ho; rw [List.length_append, List.length_singleton] at ho; have t3 := (hb.cell (World.block_lt_of_cell? w _ tw)).trans tw; have HO := hidF ho; have HB3 := hidF hb; clear ho hb hg hat)
              | ((with_reducible refine gate_builtin (b := .append) (xs := #[.tmp 36, .tmp 41]) rfl ?_); at_builtin; refine Kd.R_append (Kd.int .i64) (w0 := w) w.heap.size ?h1 (.tmp 36) (.tmp 41) 39 3 (.int .i64 0) 8 ?h2 ?h3 ?h4 ?h5 ?h6 ?h7 (.slice A2 (X.length + 1) c2) (X ++ [n]) (x) [.int .i64 (x)] (fun _ => True) (fun _ => False) ?h8 ?h9 ?aP ?hk ?aF ?aO ?aB ?aS ?aL ?_; (case h1 => exact rfl); (case h2 => exact rfl); (case h3 => exact Tryz.underlying39); (case h4 => exact infoI); (case h5 => exact rfl); (case h6 => decide); (case h7 => omega); (case h8 => exact rfl); (case h9 => exact rfl); (case hk => exact (fun _ hk => hk.elim)); (case aP => exact rfl); (case aF => exact (fun _ _ => trivial)); (case aO => exact HO.out); (case aB => exact HB3.out); (case aS => exact HB3.out.size); (case aL => omega); intro v1 w4 ho hb hg hat; have HO2 := hidF ho; have HB4 := hidF hb; clear ho hb hg hat))
            go_roundw
            case rel => exact ⟨i + 1, true, _, by go_num, rfl, by omega, HI3, HB4, HO2⟩
            case measure => simp [natOfV]; omega
          · have e2 : decide (n < x) = false := decide_eq_false h2
            have HI3 : Hid (WInv l n false (X ++ [x]) (i + 1)) := hidF (.inl ⟨rfl, by
              rw [HI2.out.1, List.take_succ_eq_append_getElem HLT.out, HX.out HLT.out], fun j hj h => by
              by_cases hji : j = i
              · subst hji; rw [HX.out HLT.out]; have := HNE.out; omega
              · exact HI2.out.2 j hj (by omega)⟩)
            clear h1 h2 hlt
            go_wp2_with (first
              | ((with_reducible refine gate_builtin (b := .append) (xs := #[.tmp 36, .tmp 41]) rfl ?_); at_builtin; refine Kd.R_append (Kd.int .i64) (w0 := w) w.heap.size ?h1 (.tmp 36) (.tmp 41) 39 3 (.int .i64 0) 8 ?h2 ?h3 ?h4 ?h5 ?h6 ?h7 (.slice A1 ((X).length) c1) (X) (x) [.int .i64 (x)] (fun _ => True) (fun _ => False) ?h8 ?h9 ?aP ?hk ?aF ?aO ?aB ?aS ?aL ?_; (case h1 => exact rfl); (case h2 => exact rfl); (case h3 => exact Tryz.underlying39); (case h4 => exact infoI); (case h5 => exact rfl); (case h6 => decide); (case h7 => omega); (case h8 => exact rfl); (case h9 => exact rfl); (case hk => exact (fun _ hk => hk.elim)); (case aP => exact rfl); (case aF => exact (fun _ _ => trivial)); (case aO => exact HR.out); (case aB => exact HB.out); (case aS => exact HB.out.size); (case aL => omega); intro v1 w3 ho hb hg hat; have HO := hidF ho; have HB3 := hidF hb; clear ho hb hg hat))
            go_roundw
            case rel => exact ⟨i + 1, false, _, by go_num, rfl, by omega, HI3, HB3, HO⟩
            case measure => simp [natOfV]; omega
        · have HI2 : Hid (X ++ l.drop i = insE n l ∧ ∀ j (h : j < l.length), i ≤ j → n < l[j]) := hidF (by
            rcases HI.out with ⟨h2, _, _⟩ | ⟨_, h2, h3⟩
            · cases h2
            · exact ⟨h2, h3⟩)
          have h2 : n < x := by have := HI2.out.2 i HLT.out (Nat.le_refl _); rw [HX.out HLT.out] at this; exact this
          have e2 : decide (n < x) = true := decide_eq_true h2
          have HI3 : Hid (WInv l n true (X ++ [x]) (i + 1)) := hidF (.inr ⟨rfl, by
            rw [← HI2.out.1, List.drop_eq_getElem_cons HLT.out, HX.out HLT.out, List.append_assoc, List.singleton_append], fun j hj h => HI2.out.2 j hj (by omega)⟩)
          clear h1 h2 hlt
          go_wp2_with (first
            | ((with_reducible refine gate_builtin (b := .append) (xs := #[.tmp 36, .tmp 41]) rfl ?_); at_builtin; refine Kd.R_append (Kd.int .i64) (w0 := w) w.heap.size ?h1 (.tmp 36) (.tmp 41) 39 3 (.int .i64 0) 8 ?h2 ?h3 ?h4 ?h5 ?h6 ?h7 (.slice A1 ((X).length) c1) (X) (x) [.int .i64 (x)] (fun _ => True) (fun _ => False) ?h8 ?h9 ?aP ?hk ?aF ?aO ?aB ?aS ?aL ?_; (case h1 => exact rfl); (case h2 => exact rfl); (case h3 => exact Tryz.underlying39); (case h4 => exact infoI); (case h5 => exact rfl); (case h6 => decide); (case h7 => omega); (case h8 => exact rfl); (case h9 => exact rfl); (case hk => exact (fun _ hk => hk.elim)); (case aP => exact rfl); (case aF => exact (fun _ _ => trivial)); (case aO => exact HR.out); (case aB => exact HB.out); (case aS => exact HB.out.size); (case aL => omega); intro v1 w3 ho hb hg hat; have HO := hidF ho; have HB3 := hidF hb; clear ho hb hg hat))
          go_roundw
          case rel => exact ⟨i + 1, true, _, by go_num, rfl, by omega, HI3, HB3, HO⟩
          case measure => simp [natOfV]; omega
    · have hie : i = l.length := by omega
      have hii : ¬ (i : Int) < (l.length : Int) := by omega
      cases p
      · have HQ : Hid (X ++ [n] = insE n l) := hidF (by
          rcases HI.out with ⟨_, h2, h3⟩ | ⟨h2, _, _⟩
          · rw [insE_split n l i hil h3, h2, List.drop_of_length_le (by omega), insE]
          · cases h2)
        clear hie hlt
        go_wp2_with (first
          | ((with_reducible refine gate_builtin (b := .append) (xs := #[.tmp 45, .tmp 47]) rfl ?_); at_builtin; refine Kd.R_append (Kd.int .i64) (w0 := w) w.heap.size ?h1 (.tmp 45) (.tmp 47) 39 3 (.int .i64 0) 8 ?h2 ?h3 ?h4 ?h5 ?h6 ?h7 (.slice A1 ((X).length) c1) (X) (n) [.int .i64 (n)] (fun _ => True) (fun _ => False) ?h8 ?h9 ?aP ?hk ?aF ?aO ?aB ?aS ?aL ?_; (case h1 => exact rfl); (case h2 => exact rfl); (case h3 => exact Tryz.underlying39); (case h4 => exact infoI); (case h5 => exact rfl); (case h6 => decide); (case h7 => omega); (case h8 => exact rfl); (case h9 => exact rfl); (case hk => exact (fun _ hk => hk.elim)); (case aP => exact rfl); (case aF => exact (fun _ _ => trivial)); (case aO => exact HR.out); (case aB => exact HB.out); (case aS => exact HB.out.size); (case aL => omega); intro v1 w3 ho hb hg hat; have HO := hidF ho; have HB3 := hidF hb; clear ho hb hg hat))
        obtain ⟨A2, c2, rfl⟩ := Kd.R_slice HO.out
        go_wp2_with fail
        exact bodyPost_ret (v := .slice A2 (X ++ [n]).length c2) (by simp [results, Tryz.results49, go_sem, *]) rfl ⟨_, rfl, .inr (by rw [← HQ.out]; exact HO.out), HB3.out⟩
      · have HQ : Hid (X = insE n l) := hidF (by
          rcases HI.out with ⟨h2, _, _⟩ | ⟨_, h2, h3⟩
          · cases h2
          · rw [List.drop_of_length_le (by omega), List.append_nil] at h2; exact h2)
        clear hie hlt
        go_wp2_with fail
        exact bodyPost_ret (v := .slice A1 X.length c1) (by simp [results, Tryz.results49, go_sem, *]) rfl ⟨_, rfl, .inr (by rw [← HQ.out]; exact HR.out), HB.out⟩
end Go.Proofs.YtakcjiinchghaaaGreatDoor
end
section
namespace Go.Proofs.YtakcjiinchghaaaGreatDoor
set_option linter.unusedVariables false
set_option linter.unusedSimpArgs false
open Go.RowKit Go.Proofs.YtakcjiinchghaaaGreatDoorW.PrintWords Go.Proofs.YtakcjiinchghaaaGreatDoorW.PrintLast PRW
def xESound.f (l : List S41) (n : Int) : Option Bool := if rngD l = true then some (soundE l n) else none
theorem xESound.calls (A0 : Option Addr) (c0 : Nat) (l : List S41) (n : Int) (r : Bool) (w : World) (hr0 : Kd.C k41 w A0 l.length l) (hc0 : l.length ≤ c0) (h : xESound.f l n = some r) :
    Calls Tryz.prog 13 #[.slice A0 l.length c0, .int .i64 n] w fun e w' => e = .returned (.bool r) ∧ Below w.heap.size w w' := by
  obtain ⟨hl, rfl⟩ := ext_of h
  exact esound_c A0 c0 l n w hr0 hc0 (fun d hd => (rngD_at hl d hd).2.1)
def xEval.f (l : List S41) (m : List S29) : Option (Int × Int × Int × ByteArray × Int) :=
  if rngD l = true ∧ rngL m = true then some ((evalE l m).v.f0, (evalE l m).v.f1, (evalE l m).v.f2, (evalE l m).v.f3, (evalE l m).e) else none
theorem xEval.calls (A0 : Option Addr) (c0 : Nat) (l : List S41) (A1 : Option Addr) (c1 : Nat) (m : List S29) (r1 r2 r3 : Int) (r4 : ByteArray) (r5 : Int) (w : World) (hr0 : Kd.C k41 w A0 l.length l) (hc0 : l.length ≤ c0) (hr1 : Kd.C k29 w A1 m.length m) (hc1 : m.length ≤ c1) (hT : ETab w) (h : xEval.f l m = some (r1, r2, r3, r4, r5)) :
    Calls Tryz.prog 11 #[.slice A0 l.length c0, .slice A1 m.length c1] w fun e w' => e = .returned (.tuple #[.agg #[.int .i64 r1, .int .i64 r2, .int .u64 r3, .string r4], .int .i64 r5]) ∧ Below w.heap.size w w' := by
  obtain ⟨⟨hl, hm⟩, he⟩ := ext_of h
  simp only [Prod.mk.injEq] at he
  obtain ⟨rfl, rfl, rfl, rfl, rfl⟩ := he
  exact eval_c A0 c0 l A1 c1 m w hr0 hc0 hr1 hT.pow (fun d hd => (rngD_at hl d hd).2.1) (rngL_I hm)
def xType.f (l : List S41) (m : List S57) : Option (Int × Bool × Bool) := if rngD l = true then some (typeE l m) else none
theorem xType.calls (A0 : Option Addr) (c0 : Nat) (l : List S41) (A1 : Option Addr) (c1 : Nat) (m : List S57) (r1 : Int) (r2 r3 : Bool) (w : World) (hr0 : Kd.C k41 w A0 l.length l) (hc0 : l.length ≤ c0) (hr1 : Kd.C k57 w A1 m.length m) (hc1 : m.length ≤ c1) (h : xType.f l m = some (r1, r2, r3)) :
    Calls Tryz.prog 15 #[.slice A0 l.length c0, .slice A1 m.length c1] w fun e w' => e = .returned (.tuple #[.int .i64 r1, .bool r2, .bool r3]) ∧ Below w.heap.size w w' := by
  obtain ⟨hl, he⟩ := ext_of h
  have := type_c kfn A0 c0 l A1 c1 m w hr0 hc0 hr1 (fun d hd => (rngD_at hl d hd).2.1)
  rw [he] at this
  exact this
def xSafe.f (l : List S41) (m : List S57) : Option Bool := if rngD l = true then some (safeE l m) else none
theorem xSafe.calls (A0 : Option Addr) (c0 : Nat) (l : List S41) (A1 : Option Addr) (c1 : Nat) (m : List S57) (r : Bool) (w : World) (hr0 : Kd.C k41 w A0 l.length l) (hc0 : l.length ≤ c0) (hr1 : Kd.C k57 w A1 m.length m) (hc1 : m.length ≤ c1) (h : xSafe.f l m = some r) :
    Calls Tryz.prog 17 #[.slice A0 l.length c0, .slice A1 m.length c1] w fun e w' => e = .returned (.bool r) ∧ Below w.heap.size w w' := by
  obtain ⟨hl, rfl⟩ := ext_of h
  exact safe_c kfn A0 c0 l A1 c1 m w hr0 hc0 hr1 (fun d hd => (rngD_at hl d hd).2.1)
def xMove.f (l : List S41) (m : List Int) : Option (List S41 × Int) := if l.length ≤ 2513169434843 then some (moveE l m, moveF l m) else none
theorem xMove.calls (A0 : Option Addr) (c0 : Nat) (l : List S41) (A1 : Option Addr) (c1 : Nat) (m : List Int) (r1 : List S41) (r2 : Int) (w : World) (hr0 : Kd.C k41 w A0 l.length l) (hc0 : l.length ≤ c0) (hr1 : Kd.C (Kd.int .i64) w A1 m.length m) (hc1 : m.length ≤ c1) (h : xMove.f l m = some (r1, r2)) :
    Calls Tryz.prog 19 #[.slice A0 l.length c0, .slice A1 m.length c1] w fun e w' => ∃ v0_ : Value, e = .returned (.tuple #[v0_, .int .i64 r2]) ∧ Kd.R k41 41 w' w.heap.size (fun _ => True) v0_ r1 ∧ Below w.heap.size w w' := by
  obtain ⟨hl, he⟩ := ext_of h
  simp only [Prod.mk.injEq] at he
  obtain ⟨rfl, rfl⟩ := he
  exact move_c A0 c0 l A1 c1 m w hr0 hr1 hl
def xCols.f (l : List S41) : Option (List Int) := if l.length ≤ 2513169434843 then some (colsE l) else none
theorem xCols.calls (A0 : Option Addr) (c0 : Nat) (l : List S41) (r : List Int) (w : World) (hr0 : Kd.C k41 w A0 l.length l) (hc0 : l.length ≤ c0) (h : xCols.f l = some r) :
    Calls Tryz.prog 23 #[.slice A0 l.length c0] w fun e w' => ∃ v0_ : Value, e = .returned v0_ ∧ Kd.R (Kd.int .i64) 3 w' w.heap.size (fun _ => True) v0_ r ∧ Below w.heap.size w w' := by
  obtain ⟨hl, rfl⟩ := ext_of h
  exact cols_c A0 c0 l w hr0 hl
/-- the codes of all steps are such numbers as the machine has -/
def rngC (e : List S41) : Bool := e.all fun d => decide (-9223372036854775808 ≤ d.f0) && decide (d.f0 ≤ 9223372036854775807)
def xEShow.f (l : List S41) : Option ByteArray := if rngD l = true ∧ rngC l = true ∧ l.length ≤ 1000000 ∧ (l.all fun d => decide ((stepS d).size ≤ 1099511627776)) = true then xJoin.f (partsE l) ⟨#[32]⟩ else none
theorem xEShow.calls (A0 : Option Addr) (c0 : Nat) (l : List S41) (r : ByteArray) (w : World) (hr0 : Kd.C k41 w A0 l.length l) (hc0 : l.length ≤ c0) (hT : ETab w) (h : xEShow.f l = some r) :
    Calls Tryz.prog 25 #[.slice A0 l.length c0] w fun e w' => e = .returned (.string r) ∧ Below w.heap.size w w' := by
  unfold xEShow.f at h
  split at h
  · rename_i hc
    refine eshow_c A0 c0 l w hr0 hT (fun d hd => ?_) hc.2.2.1 (fun d hd => of_decide_eq_true (List.all_eq_true.1 hc.2.2.2 d hd)) r h
    have h1 := List.all_eq_true.1 hc.2.1 d hd
    simp only [Bool.and_eq_true, decide_eq_true_eq] at h1
    have h2 := rngD_at hc.1 d hd
    exact ⟨⟨h1.1, h1.2⟩, h2.1, h2.2.1, h2.2.2⟩
  · cases h
end Go.Proofs.YtakcjiinchghaaaGreatDoor
end
section
namespace Go.Proofs.YtakcjiinchghaaaGreatDoor
set_option linter.unusedVariables false
set_option linter.unusedSimpArgs false
open Go.RowKit Go.Proofs.YtakcjiinchghaaaGreatDoorW.PrintWords Go.Proofs.YtakcjiinchghaaaGreatDoorW.PrintLast PRW
theorem flat_at {α β : Type} (enc : α → List β) (s : Nat) (hs : ∀ x, (enc x).length = s) : ∀ (l : List α) (j : Nat) (x : α) (i : Nat), l[j]? = some x → i < s → (l.flatMap enc)[j * s + i]? = (enc x)[i]?
  | [], j, x, i, h, _ => by simp at h
  | q :: t, 0, x, i, h, hi => by
    simp at h; subst h
    rw [List.flatMap_cons, Nat.zero_mul, Nat.zero_add, List.getElem?_append_left (by rw [hs]; exact hi)]
  | q :: t, j + 1, x, i, h, hi => by
    have := flat_at enc s hs t j x i (by simpa using h) hi
    rw [List.flatMap_cons, List.getElem?_append_right (by rw [hs, Nat.succ_mul]; omega), hs, show (j + 1) * s + i - s = j * s + i by rw [Nat.succ_mul]; omega]
    exact this
/-- a row that is laid out of things whose cells are known -/
theorem C_lit {α : Type} {d : Kd α} (enc : α → List Value) (hsz : ∀ x, (enc x).length = d.sz) (hK : ∀ w x, d.K w x (enc x)) (W : World) (t : TypeId) (l : List α) (hl : l.length ≤ 9223372036854775807) :
    Kd.C d (W.alloc (.cells (l.flatMap enc).toArray t (0, 0))) (some ⟨W.heap.size, 0, none⟩) l.length l := by
  refine ⟨rfl, hl, fun _ => ⟨_, rfl, fun j x hx => ⟨enc x, hsz x, hK _ x, fun i u hu => ?_⟩⟩⟩
  have hi : i < d.sz := by rw [← hsz x]; exact (List.getElem?_eq_some_iff.1 hu).1
  have hblk := heap_alloc_new W (.cells (l.flatMap enc).toArray t (0, 0))
  have e : ((⟨W.heap.size, 0, none⟩ : Addr).add (j * d.sz + i)) = ⟨W.heap.size, j * d.sz + i, none⟩ := by
    unfold Addr.add; split <;> simp_all
  rw [e, blk_cell hblk, List.getElem?_toArray, flat_at enc d.sz hsz l j x i hx hi]
  exact hu
theorem nilC5 {α : Type} (d : Kd α) (W : World) : Kd.C d W none 0 [] := ⟨rfl, by simp, fun h => by simp at h⟩
def encD (x : S41) : List Value := [.int .i64 x.f0, .int .i64 x.f1, .int .i64 x.f2.f0, .int .i64 x.f2.f1, .int .u64 x.f2.f2, .string x.f2.f3]
def encV (x : S29) : List Value := [.int .i64 x.f0, .int .i64 x.f1, .int .u64 x.f2, .string x.f3]
def encC (x : S57) : List Value := [.string x.f0, .int .i64 x.f1, .bool x.f2]
def encN (x : Int) : List Value := [.int .i64 x]
/-- a world with steps, rows, columns, numbers that lie in it -/
structure SA (w0 W : World) (M : List (Option Addr × Nat × List S41)) (R : List (Option Addr × Nat × List S29)) (C : List (Option Addr × Nat × List S57)) (I : List (Option Addr × Nat × List Int)) : Prop where
  bel : Below w0.heap.size w0 W
  tab : ETab W
  dos : ∀ t ∈ M, t.2.2.length ≤ t.2.1 ∧ Kd.C k41 W t.1 t.2.2.length t.2.2
  rows : ∀ t ∈ R, t.2.2.length ≤ t.2.1 ∧ Kd.C k29 W t.1 t.2.2.length t.2.2
  cols : ∀ t ∈ C, t.2.2.length ≤ t.2.1 ∧ Kd.C k57 W t.1 t.2.2.length t.2.2
  nums : ∀ t ∈ I, t.2.2.length ≤ t.2.1 ∧ Kd.C (Kd.int .i64) W t.1 t.2.2.length t.2.2
section
variable {w0 W W' : World} {M : List (Option Addr × Nat × List S41)} {R : List (Option Addr × Nat × List S29)} {C : List (Option Addr × Nat × List S57)} {I : List (Option Addr × Nat × List Int)}
theorem SA.below (h : SA w0 W M R C I) (hb : Below W.heap.size W W') : SA w0 W' M R C I :=
  ⟨h.bel.trans (hb.mono h.bel.size), h.tab.below hb, fun t ht => ⟨(h.dos t ht).1, Kd.C_below (h.dos t ht).2 hb⟩, fun t ht => ⟨(h.rows t ht).1, Kd.C_below (h.rows t ht).2 hb⟩, fun t ht => ⟨(h.cols t ht).1, Kd.C_below (h.cols t ht).2 hb⟩, fun t ht => ⟨(h.nums t ht).1, Kd.C_below (h.nums t ht).2 hb⟩⟩
theorem SA.addD (h : SA w0 W M R C I) {A : Option Addr} {c : Nat} {l : List S41} (hc : l.length ≤ c) (hC : Kd.C k41 W A l.length l) : SA w0 W ((A, c, l) :: M) R C I :=
  ⟨h.bel, h.tab, List.forall_mem_cons.2 ⟨⟨hc, hC⟩, h.dos⟩, h.rows, h.cols, h.nums⟩
theorem SA.addR (h : SA w0 W M R C I) {A : Option Addr} {c : Nat} {l : List S29} (hc : l.length ≤ c) (hC : Kd.C k29 W A l.length l) : SA w0 W M ((A, c, l) :: R) C I :=
  ⟨h.bel, h.tab, h.dos, List.forall_mem_cons.2 ⟨⟨hc, hC⟩, h.rows⟩, h.cols, h.nums⟩
theorem SA.addC (h : SA w0 W M R C I) {A : Option Addr} {c : Nat} {l : List S57} (hc : l.length ≤ c) (hC : Kd.C k57 W A l.length l) : SA w0 W M R ((A, c, l) :: C) I :=
  ⟨h.bel, h.tab, h.dos, h.rows, List.forall_mem_cons.2 ⟨⟨hc, hC⟩, h.cols⟩, h.nums⟩
theorem SA.addI (h : SA w0 W M R C I) {A : Option Addr} {c : Nat} {l : List Int} (hc : l.length ≤ c) (hC : Kd.C (Kd.int .i64) W A l.length l) : SA w0 W M R C ((A, c, l) :: I) :=
  ⟨h.bel, h.tab, h.dos, h.rows, h.cols, List.forall_mem_cons.2 ⟨⟨hc, hC⟩, h.nums⟩⟩
theorem SA.al (h : SA w0 W M R C I) (o : Obj) : SA w0 (W.alloc o) M R C I := h.below ((Below.refl _ _).alloc (Nat.le_refl _) _)
theorem SA.litD (h : SA w0 W M R C I) (l : List S41) (hl : l.length ≤ 9223372036854775807) : SA w0 (W.alloc (.cells (l.flatMap encD).toArray 41 (0, 0))) ((some ⟨W.heap.size, 0, none⟩, l.length, l) :: M) R C I :=
  (h.al _).addD (Nat.le_refl _) (C_lit encD (fun _ => rfl) (fun w x => k41_mk w x) W _ l hl)
theorem SA.litR (h : SA w0 W M R C I) (l : List S29) (hl : l.length ≤ 9223372036854775807) : SA w0 (W.alloc (.cells (l.flatMap encV).toArray 29 (0, 0))) M ((some ⟨W.heap.size, 0, none⟩, l.length, l) :: R) C I :=
  (h.al _).addR (Nat.le_refl _) (C_lit encV (fun _ => rfl) (fun w x => k29_mk w x) W _ l hl)
theorem SA.litC (h : SA w0 W M R C I) (l : List S57) (hl : l.length ≤ 9223372036854775807) : SA w0 (W.alloc (.cells (l.flatMap encC).toArray 57 (0, 0))) M R ((some ⟨W.heap.size, 0, none⟩, l.length, l) :: C) I :=
  (h.al _).addC (Nat.le_refl _) (C_lit encC (fun _ => rfl) (fun w x => k57_mk w x) W _ l hl)
theorem SA.litI (h : SA w0 W M R C I) (l : List Int) (hl : l.length ≤ 9223372036854775807) : SA w0 (W.alloc (.cells (l.flatMap encN).toArray 3 (0, 0))) M R C ((some ⟨W.heap.size, 0, none⟩, l.length, l) :: I) :=
  (h.al _).addI (Nat.le_refl _) (C_lit encN (fun _ => rfl) (fun w x => rfl) W _ l hl)
theorem eval_s (h : SA w0 W M R C I) {A B : Option Addr} {c d : Nat} {l : List S41} {k : List S29} {r1 r2 r3 : Int} {r4 : ByteArray} {r5 : Int} (hm : (A, c, l) ∈ M) (hk : (B, d, k) ∈ R) (hf : xEval.f l k = some (r1, r2, r3, r4, r5)) (m m' : Nat) (hl : l.length = m) (hl' : k.length = m') :
    Calls Tryz.prog 11 #[.slice A m c, .slice B m' d] W fun e w' => e = .returned (.tuple #[.agg #[.int .i64 r1, .int .i64 r2, .int .u64 r3, .string r4], .int .i64 r5]) ∧ SA w0 w' M R C I := by
  subst hl; subst hl'
  refine (xEval.calls A c l B d k r1 r2 r3 r4 r5 W (h.dos _ hm).2 (h.dos _ hm).1 (h.rows _ hk).2 (h.rows _ hk).1 h.tab hf).mono ?_
  rintro e w' ⟨rfl, hb⟩
  exact ⟨rfl, h.below hb⟩
theorem type_s (h : SA w0 W M R C I) {A B : Option Addr} {c d : Nat} {l : List S41} {k : List S57} {r1 : Int} {r2 r3 : Bool} (hm : (A, c, l) ∈ M) (hk : (B, d, k) ∈ C) (hf : xType.f l k = some (r1, r2, r3)) (m m' : Nat) (hl : l.length = m) (hl' : k.length = m') :
    Calls Tryz.prog 15 #[.slice A m c, .slice B m' d] W fun e w' => e = .returned (.tuple #[.int .i64 r1, .bool r2, .bool r3]) ∧ SA w0 w' M R C I := by
  subst hl; subst hl'
  refine (xType.calls A c l B d k r1 r2 r3 W (h.dos _ hm).2 (h.dos _ hm).1 (h.cols _ hk).2 (h.cols _ hk).1 hf).mono ?_
  rintro e w' ⟨rfl, hb⟩
  exact ⟨rfl, h.below hb⟩
theorem safe_s (h : SA w0 W M R C I) {A B : Option Addr} {c d : Nat} {l : List S41} {k : List S57} {r : Bool} (hm : (A, c, l) ∈ M) (hk : (B, d, k) ∈ C) (hf : xSafe.f l k = some r) (m m' : Nat) (hl : l.length = m) (hl' : k.length = m') :
    Calls Tryz.prog 17 #[.slice A m c, .slice B m' d] W fun e w' => e = .returned (.bool r) ∧ SA w0 w' M R C I := by
  subst hl; subst hl'
  refine (xSafe.calls A c l B d k r W (h.dos _ hm).2 (h.dos _ hm).1 (h.cols _ hk).2 (h.cols _ hk).1 hf).mono ?_
  rintro e w' ⟨rfl, hb⟩
  exact ⟨rfl, h.below hb⟩
theorem move_s (h : SA w0 W M R C I) {A B : Option Addr} {c d : Nat} {l r1 : List S41} {k : List Int} {r2 : Int} (hm : (A, c, l) ∈ M) (hk : (B, d, k) ∈ I) (hf : xMove.f l k = some (r1, r2)) (m m' n : Nat) (hl : l.length = m) (hl' : k.length = m') (hn : r1.length = n) :
    Calls Tryz.prog 19 #[.slice A m c, .slice B m' d] W fun e w' => ∃ A c, e = .returned (.tuple #[.slice A n c, .int .i64 r2]) ∧ SA w0 w' ((A, c, r1) :: M) R C I := by
  subst hl; subst hl'
  refine (xMove.calls A c l B d k r1 r2 W (h.dos _ hm).2 (h.dos _ hm).1 (h.nums _ hk).2 (h.nums _ hk).1 hf).mono ?_
  rintro e w' ⟨v, rfl, hR, hb⟩
  obtain ⟨A, c, rfl, hc, hC⟩ := Kd.R_reads hR
  exact ⟨A, c, by rw [hn], (h.below hb).addD hc hC⟩
theorem cols_s (h : SA w0 W M R C I) {A : Option Addr} {c : Nat} {l : List S41} {r : List Int} (hm : (A, c, l) ∈ M) (hf : xCols.f l = some r) (m n : Nat) (hl : l.length = m) (hn : r.length = n) :
    Calls Tryz.prog 23 #[.slice A m c] W fun e w' => ∃ A c, e = .returned (.slice A n c) ∧ SA w0 w' M R C ((A, c, r) :: I) := by
  subst hl
  refine (xCols.calls A c l r W (h.dos _ hm).2 (h.dos _ hm).1 hf).mono ?_
  rintro e w' ⟨v, rfl, hR, hb⟩
  obtain ⟨A, c, rfl, hc, hC⟩ := Kd.R_reads hR
  exact ⟨A, c, by rw [hn], (h.below hb).addI hc hC⟩
theorem sound_s (h : SA w0 W M R C I) {A : Option Addr} {c : Nat} {l : List S41} {n : Int} {r : Bool} (hm : (A, c, l) ∈ M) (hf : xESound.f l n = some r) (m : Nat) (hl : l.length = m) :
    Calls Tryz.prog 13 #[.slice A m c, .int .i64 n] W fun e w' => e = .returned (.bool r) ∧ SA w0 w' M R C I := by
  subst hl
  refine (xESound.calls A c l n r W (h.dos _ hm).2 (h.dos _ hm).1 hf).mono ?_
  rintro e w' ⟨rfl, hb⟩
  exact ⟨rfl, h.below hb⟩
theorem show_s (h : SA w0 W M R C I) {A : Option Addr} {c : Nat} {l : List S41} {r : ByteArray} (hm : (A, c, l) ∈ M) (hf : xEShow.f l = some r) (m : Nat) (hl : l.length = m) :
    Calls Tryz.prog 25 #[.slice A m c] W fun e w' => e = .returned (.string r) ∧ SA w0 w' M R C I := by
  subst hl
  refine (xEShow.calls A c l r W (h.dos _ hm).2 (h.dos _ hm).1 h.tab hf).mono ?_
  rintro e w' ⟨rfl, hb⟩
  exact ⟨rfl, h.below hb⟩
theorem same_s (h : SA w0 W M R C I) {A B : Option Addr} {c d : Nat} {l k : List Int} (hm : (A, c, l) ∈ I) (hk : (B, d, k) ∈ I) {r : Bool} (hf : freshetlaw05_same.f 10 l k = some r) (m m' : Nat) (hl : l.length = m) (hl' : k.length = m') :
    Calls Tryz.prog 22 #[.slice A m c, .slice B m' d] W fun e w' => e = .returned (.bool r) ∧ SA w0 w' M R C I := by
  subst hl; subst hl'
  refine (freshetlaw05_same.calls 10 A c l B d k r W (h.nums _ hm).2 (h.nums _ hm).1 (h.nums _ hk).2 (h.nums _ hk).1 hf).mono ?_
  rintro e w' ⟨rfl, hd⟩
  exact ⟨rfl, h.below hd.below⟩
end
set_option maxRecDepth 100000 in
theorem num_c (n : Int) (W : World) : Calls Tryz.prog 29 #[.int .i64 n] W fun e w' => e = .returned (.agg #[.int .i64 1, .int .i64 0, .int .i64 2, .int .i64 n, .int .u64 0, .string ⟨#[]⟩]) ∧ Below W.heap.size W w' := by
  go_enter Tryz.func29, Tryz.ntmps29
  go_wp2
  exact bodyPost_ret (v := .agg #[.int .i64 1, .int .i64 0, .int .i64 2, .int .i64 n, .int .u64 0, .string ⟨#[]⟩]) (by simp [results, Tryz.results29, go_sem, *]) rfl ⟨rfl, (by repeat (first | (with_reducible exact Below.refl _ _) | (with_reducible refine below_al ?_ _) | (with_reducible refine below_drewN ?_ _) | (with_reducible refine Below.drew ?_) | (with_reducible refine below_via (by assumption) ?_) | (with_reducible refine below_sc ?_ ?_ _; · (first | (simp; done) | (simp; omega) | omega))))⟩
theorem num_s {w0 W : World} {M : List (Option Addr × Nat × List S41)} {R : List (Option Addr × Nat × List S29)} {C : List (Option Addr × Nat × List S57)} {I : List (Option Addr × Nat × List Int)} (h : SA w0 W M R C I) (n : Int) :
    Calls Tryz.prog 29 #[.int .i64 n] W fun e w' => e = .returned (.agg #[.int .i64 1, .int .i64 0, .int .i64 2, .int .i64 n, .int .u64 0, .string ⟨#[]⟩]) ∧ SA w0 w' M R C I := by
  refine (num_c n W).mono ?_
  rintro e w' ⟨rfl, hb⟩
  exact ⟨rfl, h.below hb⟩
abbrev nD (n : Int) : S41 := ⟨1, 0, ⟨2, n, 0, ⟨#[]⟩⟩⟩
abbrev cD (c : Int) : S41 := ⟨c, 0, ⟨0, 0, 0, ⟨#[]⟩⟩⟩
abbrev mD (n : Int) : S41 := ⟨2, n, ⟨0, 0, 0, ⟨#[]⟩⟩⟩
theorem aw_eval1 : xEval.f [cD 2, nD 5, cD 10] [⟨2, 3, 0, ⟨#[]⟩⟩] = some (2, 8, 0, ⟨#[]⟩, 0) := by kernel_rfl
theorem aw_eval2 : xEval.f [nD 5, nD 0, cD 13, nD 9223372036854775807, nD 1, cD 10, cD 16] [] = some (0, 0, 0, ⟨#[]⟩, 10) := by kernel_rfl
theorem aw_type : xType.f [cD 2, nD 5, cD 10] [⟨⟨#[]⟩, 2, true⟩] = some (2, true, true) := by kernel_rfl
theorem aw_move : xMove.f [cD 2, nD 5, cD 10] [7] = some ([mD 7, nD 5, cD 10], 0) := by kernel_rfl
theorem aw_cols : xCols.f [mD 7, nD 5, cD 10] = some [7] := by
  have h : namesE [mD 7, nD 5, cD 10] = [7] := by kernel_rfl
  unfold xCols.f colsE
  rw [h, if_pos (by decide)]
  rw [List.mergeSort_singleton]
  rfl
theorem aw_sound : xESound.f [cD 2, nD 5, cD 10] 1 = some true := by kernel_rfl
theorem aw_show : xEShow.f [cD 2, nD 5, cD 10] = some ⟨#[50, 58, 48, 32, 49, 58, 53, 32, 49, 48, 58]⟩ := by kernel_rfl
theorem aw_same : freshetlaw05_same.f 10 [7] [7] = some true := by kernel_rfl
theorem aw_safe1 : xSafe.f [cD 2, nD 5, cD 10] [⟨⟨#[]⟩, 2, false⟩] = some false := by kernel_rfl
theorem aw_safe2 : xSafe.f [cD 2] [⟨⟨#[]⟩, 2, false⟩] = some true := by kernel_rfl
end Go.Proofs.YtakcjiinchghaaaGreatDoor
end
section
namespace Go.Proofs.YtakcjiinchghaaaGreatDoor
set_option linter.unusedVariables false
set_option linter.unusedSimpArgs false
open Go.RowKit Go.Proofs.YtakcjiinchghaaaGreatDoorW.PrintWords Go.Proofs.YtakcjiinchghaaaGreatDoorW.PrintLast PRW
set_option maxRecDepth 1000000 in
set_option maxHeartbeats 16000000 in
theorem awake5_c (w : World) (hT : ETab w) : Calls Tryz.prog 10 #[] w fun e w' => e = .returned (.bool true) ∧ Below w.heap.size w w' := by
  have HS0 := hidF (show SA w w [] [(none, 0, [])] [] [] from ⟨Below.refl _ _, hT, fun t ht => absurd ht List.not_mem_nil, List.forall_mem_cons.2 ⟨⟨Nat.le_refl _, nilC5 _ _⟩, fun t ht => absurd ht List.not_mem_nil⟩, fun t ht => absurd ht List.not_mem_nil, fun t ht => absurd ht List.not_mem_nil⟩)
  clear hT
  go_enter Tryz.func10, Tryz.ntmps10
  go_wp2_with fail
  (with_reducible refine (num_s HS0.out 5).mono ?_)
  rintro e w1 ⟨rfl, hS⟩
  have HS1 := hidF hS
  clear hS HS0
  have HSL := hidF (show SA w (w1.alloc (.cells #[.int .i64 (2), .int .i64 (0), .int .i64 (0), .int .i64 (0), .int .u64 0, .string ⟨#[]⟩, .int .i64 (1), .int .i64 (0), .int .i64 (2), .int .i64 (5), .int .u64 0, .string ⟨#[]⟩, .int .i64 (10), .int .i64 (0), .int .i64 (0), .int .i64 (0), .int .u64 0, .string ⟨#[]⟩] 41 (0, 0))) _ _ _ _ from HS1.out.litD [cD 2, nD 5, cD 10] (by simp))
  clear HS1
  have HS1 := HSL
  clear HSL
  have HSL := hidF (show SA w ((w1.alloc (.cells #[.int .i64 (2), .int .i64 (0), .int .i64 (0), .int .i64 (0), .int .u64 0, .string ⟨#[]⟩, .int .i64 (1), .int .i64 (0), .int .i64 (2), .int .i64 (5), .int .u64 0, .string ⟨#[]⟩, .int .i64 (10), .int .i64 (0), .int .i64 (0), .int .i64 (0), .int .u64 0, .string ⟨#[]⟩] 41 (0, 0))).alloc (.cells #[.int .i64 (2), .int .i64 (3), .int .u64 0, .string ⟨#[]⟩] 29 (0, 0))) _ _ _ _ from HS1.out.litR [⟨2, 3, 0, ⟨#[]⟩⟩] (by simp))
  clear HS1
  have HS1 := HSL
  clear HSL
  go_wp2_with fail
  (with_reducible refine (eval_s HS1.out (l := [cD 2, nD 5, cD 10]) (k := [⟨2, 3, 0, ⟨#[]⟩⟩]) (by simp) (by simp) aw_eval1 3 1 rfl rfl).mono ?_)
  rintro e w2 ⟨rfl, hS⟩
  have HS2 := hidF hS
  clear hS HS1
  have HSL := hidF (show SA w (w2.alloc (.cells #[.int .i64 (2), .int .i64 (8), .int .u64 0, .string ⟨#[]⟩] 29 (0, 0))) _ _ _ _ from HS2.out.litR [⟨2, 8, 0, ⟨#[]⟩⟩] (by simp))
  clear HS2
  have HS2 := HSL
  clear HSL
  have HSL := hidF (show SA w ((w2.alloc (.cells #[.int .i64 (2), .int .i64 (8), .int .u64 0, .string ⟨#[]⟩] 29 (0, 0))).alloc (.cells #[.string ⟨#[]⟩, .int .i64 2, .bool true] 57 (0, 0))) _ _ _ _ from HS2.out.litC [⟨⟨#[]⟩, 2, true⟩] (by simp))
  clear HS2
  have HS2 := HSL
  clear HSL
  go_wp2_with fail
  (with_reducible refine (type_s HS2.out (l := [cD 2, nD 5, cD 10]) (k := [⟨⟨#[]⟩, 2, true⟩]) (by simp) (by simp) aw_type 3 1 rfl rfl).mono ?_)
  rintro e w3 ⟨rfl, hS⟩
  have HS3 := hidF hS
  clear hS HS2
  go_wp2_with fail
  (with_reducible refine (num_s HS3.out 5).mono ?_)
  rintro e w4 ⟨rfl, hS⟩
  have HS4 := hidF hS
  clear hS HS3
  go_wp2_with fail
  (with_reducible refine (num_s HS4.out 0).mono ?_)
  rintro e w5 ⟨rfl, hS⟩
  have HS5 := hidF hS
  clear hS HS4
  go_wp2_with fail
  (with_reducible refine (num_s HS5.out 9223372036854775807).mono ?_)
  rintro e w6 ⟨rfl, hS⟩
  have HS6 := hidF hS
  clear hS HS5
  go_wp2_with fail
  (with_reducible refine (num_s HS6.out 1).mono ?_)
  rintro e w7 ⟨rfl, hS⟩
  have HS7 := hidF hS
  clear hS HS6
  have HSL := hidF (show SA w (w7.alloc (.cells #[.int .i64 (1), .int .i64 (0), .int .i64 (2), .int .i64 (5), .int .u64 0, .string ⟨#[]⟩, .int .i64 (1), .int .i64 (0), .int .i64 (2), .int .i64 (0), .int .u64 0, .string ⟨#[]⟩, .int .i64 (13), .int .i64 (0), .int .i64 (0), .int .i64 (0), .int .u64 0, .string ⟨#[]⟩, .int .i64 (1), .int .i64 (0), .int .i64 (2), .int .i64 (9223372036854775807), .int .u64 0, .string ⟨#[]⟩, .int .i64 (1), .int .i64 (0), .int .i64 (2), .int .i64 (1), .int .u64 0, .string ⟨#[]⟩, .int .i64 (10), .int .i64 (0), .int .i64 (0), .int .i64 (0), .int .u64 0, .string ⟨#[]⟩, .int .i64 (16), .int .i64 (0), .int .i64 (0), .int .i64 (0), .int .u64 0, .string ⟨#[]⟩] 41 (0, 0))) _ _ _ _ from HS7.out.litD [nD 5, nD 0, cD 13, nD 9223372036854775807, nD 1, cD 10, cD 16] (by simp))
  clear HS7
  have HS7 := HSL
  clear HSL
  go_wp2_with fail
  (with_reducible refine (eval_s HS7.out (l := [nD 5, nD 0, cD 13, nD 9223372036854775807, nD 1, cD 10, cD 16]) (k := []) (by simp) (by simp) aw_eval2 7 0 rfl rfl).mono ?_)
  rintro e w8 ⟨rfl, hS⟩
  have HS8 := hidF hS
  clear hS HS7
  have HSL := hidF (show SA w (w8.alloc (.cells #[.int .i64 (0), .int .i64 (0), .int .u64 0, .string ⟨#[]⟩] 29 (0, 0))) _ _ _ _ from HS8.out.litR [⟨0, 0, 0, ⟨#[]⟩⟩] (by simp))
  clear HS8
  have HS8 := HSL
  clear HSL
  have HSL := hidF (show SA w ((w8.alloc (.cells #[.int .i64 (0), .int .i64 (0), .int .u64 0, .string ⟨#[]⟩] 29 (0, 0))).alloc (.cells #[.int .i64 7] 3 (0, 0))) _ _ _ _ from HS8.out.litI [7] (by simp))
  clear HS8
  have HS8 := HSL
  clear HSL
  go_wp2_with fail
  (with_reducible refine (move_s HS8.out (l := [cD 2, nD 5, cD 10]) (k := [7]) (by simp) (by simp) aw_move 3 1 3 rfl rfl rfl).mono ?_)
  rintro e w9 ⟨A9, c9, rfl, hS⟩
  have HS9 := hidF hS
  clear hS HS8
  go_wp2_with fail
  (with_reducible refine (sound_s HS9.out (l := [cD 2, nD 5, cD 10]) (by simp) aw_sound 3 rfl).mono ?_)
  rintro e w10 ⟨rfl, hS⟩
  have HS10 := hidF hS
  clear hS HS9
  obtain ⟨ad, ea, k0, k1, k2, k3⟩ := at_T29 (HS10.out.rows (some ⟨w2.heap.size, 0, none⟩, 1, [⟨2, 8, 0, ⟨#[]⟩⟩]) (by simp)).2 0 (by omega) (by simp)
  obtain rfl : ad = ⟨w2.heap.size, 0, none⟩ := (Option.some.inj ea).symm
  clear ea
  obtain ⟨bd, eb, j0, j1, j2, j3, j4, j5⟩ := at_T41 (HS10.out.dos (A9, c9, [mD 7, nD 5, cD 10]) (by simp)).2 0 (by omega) (by simp)
  simp only [] at eb
  subst eb
  clear j0 j2 j3 j4 j5
  have j1 : w10.cell? ⟨bd.block, bd.off + 1, none⟩ = some (.int .i64 7) := by simpa [Addr.add, rd_T41] using j1
  have k0 : w10.cell? ⟨w2.heap.size, 0, none⟩ = some (.int .i64 2) := by simpa [Addr.add, rd_T29] using k0
  have k1 : w10.cell? ⟨w2.heap.size, 1, none⟩ = some (.int .i64 8) := by simpa [Addr.add, rd_T29] using k1
  have k2 : w10.cell? ⟨w2.heap.size, 2, none⟩ = some (.int .u64 0) := by simpa [Addr.add, rd_T29] using k2
  have k3 : w10.cell? ⟨w2.heap.size, 3, none⟩ = some (.string ⟨#[]⟩) := by simpa [Addr.add, rd_T29] using k3
  go_wp2_with fail
  (with_reducible refine (cols_s HS10.out (l := [mD 7, nD 5, cD 10]) (by simp) aw_cols 3 1 rfl rfl).mono ?_)
  rintro e w11 ⟨A11, c11, rfl, hS⟩
  have HS11 := hidF hS
  clear hS HS10
  have HSL := hidF (show SA w (w11.alloc (.cells #[.int .i64 7] 3 (0, 0))) _ _ _ _ from HS11.out.litI [7] (by simp))
  clear HS11
  have HS11 := HSL
  clear HSL
  go_wp2_with fail
  (with_reducible refine (same_s HS11.out (l := [7]) (k := [7]) (by simp) (by simp) aw_same 1 1 rfl rfl).mono ?_)
  rintro e w12 ⟨rfl, hS⟩
  have HS12 := hidF hS
  clear hS HS11
  go_wp2_with fail
  (with_reducible refine (show_s HS12.out (l := [cD 2, nD 5, cD 10]) (by simp) aw_show 3 rfl).mono ?_)
  rintro e w13 ⟨rfl, hS⟩
  have HS13 := hidF hS
  clear hS HS12
  have HSL := hidF (show SA w (w13.alloc (.cells #[.string ⟨#[]⟩, .int .i64 2, .bool false] 57 (0, 0))) _ _ _ _ from HS13.out.litC [⟨⟨#[]⟩, 2, false⟩] (by simp))
  clear HS13
  have HS13 := HSL
  clear HSL
  go_wp2_with fail
  (with_reducible refine (safe_s HS13.out (l := [cD 2, nD 5, cD 10]) (k := [⟨⟨#[]⟩, 2, false⟩]) (by simp) (by simp) aw_safe1 3 1 rfl rfl).mono ?_)
  rintro e w14 ⟨rfl, hS⟩
  have HS14 := hidF hS
  clear hS HS13
  have HSL := hidF (show SA w (w14.alloc (.cells #[.string ⟨#[]⟩, .int .i64 2, .bool false] 57 (0, 0))) _ _ _ _ from HS14.out.litC [⟨⟨#[]⟩, 2, false⟩] (by simp))
  clear HS14
  have HS14 := HSL
  clear HSL
  have HSL := hidF (HS14.out.addD (A := some ⟨w1.heap.size, 0, none⟩) (c := 3) (l := [cD 2]) (by simp) (show Kd.C k41 _ _ 1 [cD 2] from Kd.C_take (m := 1) (HS14.out.dos (some ⟨w1.heap.size, 0, none⟩, 3, [cD 2, nD 5, cD 10]) (by simp)).2 (by simp)))
  clear HS14
  have HS14 := HSL
  clear HSL
  go_wp2_with fail
  (with_reducible refine (safe_s HS14.out (l := [cD 2]) (k := [⟨⟨#[]⟩, 2, false⟩]) (by simp) (by simp) aw_safe2 1 1 rfl rfl).mono ?_)
  rintro e w15 ⟨rfl, hS⟩
  have HS15 := hidF hS
  clear hS HS14
  go_wp2_with fail
  exact bodyPost_ret (v := .bool true) (by simp [results, Tryz.results10, go_sem, *]) rfl ⟨rfl, HS15.out.bel⟩
end Go.Proofs.YtakcjiinchghaaaGreatDoor
end
section
namespace Go.Proofs.YtakcjiinchghaaaGreatDoor
set_option linter.unusedVariables false
set_option linter.unusedSimpArgs false
open Go.RowKit Go.Proofs.YtakcjiinchghaaaGreatDoorW.PrintWords Go.Proofs.YtakcjiinchghaaaGreatDoorW.PrintLast PRW
def xAwake5.f : Option Bool := some true
theorem xAwake5.calls (r : Bool) (w : World) (hT : ETab w) (h : xAwake5.f = some r) :
    Calls Tryz.prog 10 #[] w fun e w' => e = .returned (.bool r) ∧ Below w.heap.size w w' := by
  cases Option.some.inj h
  exact awake5_c w hT
end Go.Proofs.YtakcjiinchghaaaGreatDoor
end
section
namespace Go.Proofs.YtakcjiinchghaaaGreatDoor
set_option linter.unusedVariables false
set_option linter.unusedSimpArgs false
open Go.RowKit Go.Proofs.YtakcjiinchghaaaGreatDoorW.PrintWords Go.Proofs.YtakcjiinchghaaaGreatDoorW.PrintLast PRW
/-- the numbers put one by one -/
def putAll5 (l : List Int) : List Int := l.foldl (fun acc n => insE n acc) []
theorem putAll_snoc (l : List Int) (n : Int) : putAll5 (l ++ [n]) = insE n (putAll5 l) := by unfold putAll5; rw [List.foldl_append]; rfl
theorem foldl_ins : ∀ (l acc : List Int), acc.Pairwise (· < ·) → (l.foldl (fun acc n => insE n acc) acc).Pairwise (· < ·) ∧ (∀ x, x ∈ l.foldl (fun acc n => insE n acc) acc ↔ x ∈ acc ∨ x ∈ l) ∧ (l.foldl (fun acc n => insE n acc) acc).length ≤ acc.length + l.length
  | [], acc, h => ⟨h, fun x => by simp, by simp⟩
  | n :: l, acc, h => by
    obtain ⟨h1, h2, h3⟩ := foldl_ins l (insE n acc) (insE_lt n acc h)
    refine ⟨h1, fun x => ?_, ?_⟩
    · rw [List.foldl_cons, h2, insE_mem, List.mem_cons]
      constructor
      · rintro ((h | h) | h)
        · exact .inr (.inl h)
        · exact .inl h
        · exact .inr (.inr h)
      · rintro (h | h | h)
        · exact .inl (.inr h)
        · exact .inl (.inl h)
        · exact .inr h
    · rw [List.foldl_cons, List.length_cons]
      have := insE_len n acc
      omega
theorem putAll_cols (e : List S41) : putAll5 (namesE e) = colsE e := by
  obtain ⟨h1, h2, _⟩ := foldl_ins (namesE e) [] List.Pairwise.nil
  refine rise_ext _ _ h1 (cols_lt e) fun x => ?_
  have h3 := h2 x
  rw [cols_mem]
  refine h3.trans ?_
  unfold namesE
  simp only [List.not_mem_nil, false_or, List.mem_map, List.mem_filter, decide_eq_true_eq]
  constructor
  · rintro ⟨d, ⟨h1, h2⟩, h3⟩; exact ⟨d, h1, h2, h3⟩
  · rintro ⟨d, h1, h2, h3⟩; exact ⟨d, ⟨h1, h2⟩, h3⟩
set_option maxRecDepth 100000 in
set_option maxHeartbeats 8000000 in
theorem rcols_c (A : Option Addr) (c : Nat) (e : List S41) (w : World) (hC : Kd.C k41 w A e.length e) (hl : e.length ≤ 1000000) :
    Calls Tryz.prog 24 #[.slice A e.length c] w fun en w' => ∃ v, en = .returned v ∧ Kd.R (Kd.int .i64) 3 w' w.heap.size (fun _ => True) v (colsE e) ∧ Below w.heap.size w w' := by
  have HC := hidF hC
  clear hC
  go_enter Tryz.func24, Tryz.ntmps24
  go_wp2_with (first | ((with_reducible refine gate_dst (N := 5) rfl ?_); refine Kd.R_lit (Kd.int .i64) _ 3 ?hg (N := 5) ?hd (xs := ([] : List Int)) (inner := []) (ok := fun _ => True) (okp := fun _ => True) ?hr ?hp (fun _ hk => hk) trivial (Below.refl _ _) (Nat.le_refl _) (by simp) ?_; (case hd => rfl); (case hg => rfl); (case hr => first | (go_simp; done) | (go_simp; rfl)); (case hp => exact Reps.none _ _); intro v0 w0 ho hb hg hn; clear hg hn; have HR0 := hidF ho; have HB0 := hidF hb; clear ho hb))
  go_loopw [3, 4] (fun v3 v wr => ∃ i : Nat, v = .int .i64 (i : Int) ∧ i ≤ e.length ∧ Hid (Below w.heap.size w wr) ∧ Hid (Kd.R (Kd.int .i64) 3 wr w.heap.size (fun _ => True) v3 (putAll5 (namesE (e.take i))))) (fun _ v _ => e.length - natOfV v)
  case atStart => exact ⟨0, rfl, by omega, HB0, HR0⟩
  case round =>
    clear HR0 HB0
    obtain ⟨i, rfl, hil, HB, HR⟩ := hrel
    by_cases hlt : i < e.length
    · obtain ⟨d, hd⟩ : ∃ d, e[i]? = some d := ⟨_, List.getElem?_eq_getElem hlt⟩
      have rdd : rd_T41 e (i : Int) = d := by
        unfold rd_T41
        simp only [Int.toNat_natCast, List.getD_eq_getElem?_getD]
        rw [hd]; rfl
      obtain ⟨ad, ea, k0, k1, k2, k3, k4, k5⟩ := at_T41 (Kd.C_below HC.out HB.out) (i : Int) (by omega) (by omega)
      cases ea
      rw [rdd] at k0 k1 k2 k3 k4 k5
      simp only [Int.toNat_natCast] at k0 k1 k2 k3 k4 k5
      have hii : (i : Int) < (e.length : Int) := by omega
      have HN := hidF (names_take hd)
      have hwle := HB.out.size
      by_cases h2 : d.f0 = 2
      · have e2 : (d.f0 == 2) = true := beq_iff_eq.2 h2
        have HN2 : Hid (putAll5 (namesE (e.take (i + 1))) = insE d.f1 (putAll5 (namesE (e.take i)))) := hidF (by rw [HN.out, if_pos h2, putAll_snoc])
        obtain ⟨A1, c1, rfl⟩ := Kd.R_slice HR.out
        obtain ⟨A2, c2, q2, q3, q4⟩ := Kd.R_reads HR.out
        injection q2 with q5 q6 q7
        subst q5; subst q7
        have HRC := hidF q4
        obtain ⟨g1, g2, g3⟩ := foldl_ins (namesE (e.take i)) [] List.Pairwise.nil
        have HG : Hid ((putAll5 (namesE (e.take i))).Pairwise (· < ·) ∧ (putAll5 (namesE (e.take i))).length ≤ 1000000) := hidF ⟨g1, Nat.le_trans g3 (by have := names_len (e.take i); rw [List.length_take] at this; simp; omega)⟩
        clear hd rdd h2 q3 q4 q6 g1 g2 g3
        go_wp2_with (first | (go_at_call 49; ((with_reducible refine (with_c A1 c1 (putAll5 (namesE (e.take i))) d.f1 wr HRC.out HG.out.1 HG.out.2).mono ?_); rintro en w1 ⟨v1, rfl, ho, hb⟩; have HO : Hid (Kd.R (Kd.int .i64) 3 w1 w.heap.size (fun _ => True) v1 (insE d.f1 (putAll5 (namesE (e.take i))))) := hidF (ho.elim (fun h => by rw [h.1, h.2]; exact Kd.R_below HR.out hb) (fun h => Kd.R_lower h hwle)); have HB1 := hidF (HB.out.trans (hb.mono HB.out.size)); clear ho hb)))
        go_roundw
        case rel => exact ⟨i + 1, by go_num, by omega, HB1, hidF (by rw [HN2.out]; exact HO.out)⟩
        case measure => simp [natOfV]; omega
      · have e2 : (d.f0 == 2) = false := beq_eq_false_iff_ne.2 h2
        have HN2 : Hid (putAll5 (namesE (e.take (i + 1))) = putAll5 (namesE (e.take i))) := hidF (by rw [HN.out, if_neg h2, List.append_nil])
        clear hd rdd h2
        go_wp2_with fail
        go_roundw
        case rel => exact ⟨i + 1, by go_num, by omega, HB, hidF (by rw [HN2.out]; exact HR.out)⟩
        case measure => simp [natOfV]; omega
    · have hie : i = e.length := by omega
      have HR2 : Hid (Kd.R (Kd.int .i64) 3 wr w.heap.size (fun _ => True) _ (colsE e)) := hidF (by
        have := HR.out
        rwa [hie, List.take_of_length_le (Nat.le_refl _), putAll_cols] at this)
      obtain ⟨A1, c1, rfl⟩ := Kd.R_slice HR2.out
      have hii : ¬ (i : Int) < (e.length : Int) := by omega
      clear hie hlt hil HR
      go_wp2_with fail
      exact bodyPost_ret (v := .slice A1 (colsE e).length c1) (by simp [results, Tryz.results24, go_sem, *]) rfl ⟨_, rfl, HR2.out, HB.out⟩
def xRCols.f (l : List S41) : Option (List Int) := if l.length ≤ 1000000 then some (colsE l) else none
theorem xRCols.calls (A0 : Option Addr) (c0 : Nat) (l : List S41) (r : List Int) (w : World) (hr0 : Kd.C k41 w A0 l.length l) (hc0 : l.length ≤ c0) (h : xRCols.f l = some r) :
    Calls Tryz.prog 24 #[.slice A0 l.length c0] w fun e w' => ∃ v0_ : Value, e = .returned v0_ ∧ Kd.R (Kd.int .i64) 3 w' w.heap.size (fun _ => True) v0_ r ∧ Below w.heap.size w w' := by
  obtain ⟨hl, rfl⟩ := ext_of h
  exact rcols_c A0 c0 l w hr0 hl
end Go.Proofs.YtakcjiinchghaaaGreatDoor
end
section
namespace Go.Proofs.YtakcjiinchghaaaGreatDoor
set_option linter.unusedVariables false
set_option linter.unusedSimpArgs false
open Go.RowKit Go.Proofs.YtakcjiinchghaaaGreatDoorW.PrintWords Go.Proofs.YtakcjiinchghaaaGreatDoorW.PrintLast PRW
set_option maxRecDepth 100000 in
set_option maxHeartbeats 8000000 in
theorem rmove_c (A : Option Addr) (c : Nat) (e : List S41) (A' : Option Addr) (c' : Nat) (tos : List Int) (w : World) (hC : Kd.C k41 w A e.length e) (hT : Kd.C (Kd.int .i64) w A' tos.length tos) (hl : e.length ≤ 1000000) :
    Calls Tryz.prog 20 #[.slice A e.length c, .slice A' tos.length c'] w fun en w' => ∃ v, en = .returned (.tuple #[v, .int .i64 (moveF e tos)]) ∧ Kd.R k41 41 w' w.heap.size (fun _ => True) v (moveE e tos) ∧ Below w.heap.size w w' := by
  have HC := hidF hC
  have HT := hidF hT
  clear hC hT
  go_enter Tryz.func20, Tryz.ntmps20
  go_wp2_with (first | ((with_reducible refine gate_dst (N := 9) rfl ?_); refine Kd.R_lit k41 _ 41 ?hg (N := 9) ?hd (xs := ([] : List S41)) (inner := []) (ok := fun _ => True) (okp := fun _ => True) ?hr ?hp (fun _ hk => hk) trivial (Below.refl _ _) (Nat.le_refl _) (by simp) ?_; (case hd => rfl); (case hg => rfl); (case hr => first | (go_simp; done) | (go_simp; rfl)); (case hp => exact Reps.none _ _); intro v0 w0 ho hb hg hn; clear hg hn; have HR0 := hidF ho; have HB0 := hidF hb; clear ho hb))
  go_loopw [6, 7] (fun v6 v wr => ∃ i : Nat, v = .int .i64 (i : Int) ∧ i ≤ e.length ∧ Hid (okTo (e.take i) tos = true) ∧ Hid (Below w.heap.size w wr) ∧ Hid (Kd.R k41 41 wr w.heap.size (fun _ => True) v6 ((e.take i).map (mvD tos)))) (fun _ v _ => e.length - natOfV v)
  case atStart => exact ⟨0, rfl, by omega, hidF rfl, HB0, HR0⟩
  case round =>
    clear HR0 HB0
    obtain ⟨i, rfl, hil, HK, HB, HR⟩ := hrel
    by_cases hlt : i < e.length
    · obtain ⟨d, hd⟩ : ∃ d, e[i]? = some d := ⟨_, List.getElem?_eq_getElem hlt⟩
      have rdd : rd_T41 e (i : Int) = d := by
        unfold rd_T41
        simp only [Int.toNat_natCast, List.getD_eq_getElem?_getD]
        rw [hd]; rfl
      obtain ⟨ad, ea, k0, k1, k2, k3, k4, k5⟩ := at_T41 (Kd.C_below HC.out HB.out) (i : Int) (by omega) (by omega)
      cases ea
      rw [rdd] at k0 k1 k2 k3 k4 k5
      simp only [Int.toNat_natCast] at k0 k1 k2 k3 k4 k5
      have hii : (i : Int) < (e.length : Int) := by omega
      have hwle := HB.out.size
      have hml : ((e.take i).map (mvD tos)).length ≤ 1000000 := by simp; omega
      have HTK : Hid ((e.take (i + 1)).map (mvD tos) = (e.take i).map (mvD tos) ++ [mvD tos d]) := hidF (by
        have he : e[i] = d := (List.getElem?_eq_some_iff.1 hd).2
        rw [List.take_succ_eq_append_getElem hlt, List.map_append, he]; rfl)
      obtain ⟨A1, c1, rfl⟩ := Kd.R_slice HR.out
      by_cases h2 : d.f0 = 2
      · by_cases hin : 0 ≤ d.f1 ∧ d.f1 < (tos.length : Int)
        · obtain ⟨tad, rfl, t0⟩ := Kd.at_int (Kd.C_below HT.out HB.out) d.f1 hin.1 hin.2
          have tl := World.block_lt_of_cell? wr _ t0
          have n1 : ¬ (tad.add d.f1.toNat).block = wr.heap.size := by omega
          have n1' : ¬ wr.heap.size = (tad.add d.f1.toNat).block := by omega
          have hmv : mvD tos d = ⟨d.f0, rd tos d.f1, d.f2⟩ := if_pos h2
          have HMV := hidF hmv
          have HK2 := hidF (okTo_take hd HK.out (.inr hin))
          have e2 : (d.f0 == 2) = true := beq_iff_eq.2 h2
          have e3 : decide (d.f1 < 0) = false := decide_eq_false (by omega)
          have e4 : decide ((tos.length : Int) ≤ d.f1) = false := decide_eq_false (by omega)
          have HRa := hidF (Kd.R_alloc HR.out (.cells #[.int .i64 d.f0, .int .i64 (rd tos d.f1), .int .i64 d.f2.f0, .int .i64 d.f2.f1, .int .u64 d.f2.f2, .string d.f2.f3] 41))
          have HBa := hidF (HB.out.alloc HB.out.size (.cells #[.int .i64 d.f0, .int .i64 (rd tos d.f1), .int .i64 d.f2.f0, .int .i64 d.f2.f1, .int .u64 d.f2.f2, .string d.f2.f3] 41))
          obtain ⟨q0, q1⟩ := hin
          clear hd rdd h2 hmv
          go_wp2_with (first | ((with_reducible refine gate_builtin (b := .append) (xs := #[.tmp 39, .tmp 41]) rfl ?_); at_builtin; refine Kd.R_append k41 (w0 := w) w.heap.size ?h1 (.tmp 39) (.tmp 41) 23 41 (.agg #[(.int .i64 0), (.int .i64 0), (.int .i64 0), (.int .i64 0), (.int .u64 0), (.string ⟨#[]⟩)]) 56 ?h2 ?h3 ?h4 ?h5 ?h6 ?h7 (.slice A1 ((e.take i).map (mvD tos)).length c1) ((e.take i).map (mvD tos)) (⟨d.f0, rd tos d.f1, d.f2⟩ : S41) [.int .i64 d.f0, .int .i64 (rd tos d.f1), .int .i64 d.f2.f0, .int .i64 d.f2.f1, .int .u64 d.f2.f2, .string d.f2.f3] (fun _ => True) (fun _ => False) ?h8 ?h9 ?aP ?hk ?aF ?aO ?aB ?aS ?aL ?_; (case h1 => exact rfl); (case h2 => exact rfl); (case h3 => exact Tryz.underlying23); (case h4 => exact infoDd); (case h5 => exact rfl); (case h6 => decide); (case h7 => omega); (case h8 => exact rfl); (case h9 => first | exact rfl | (go_simp; done) | (simp [Act.eval]; done) | (simp [go_sem]; done)); (case hk => exact (fun _ hk => hk.elim)); (case aP => exact k41_mkM _ _ _ _); (case aF => exact (fun _ _ => trivial)); (case aO => exact HRa.out); (case aB => exact HBa.out); (case aS => exact HBa.out.size); (case aL => omega); intro v1 w3 ho hb hg hat; have HO := hidF ho; have HB3 := hidF hb; clear ho hb hg hat))
          go_roundw
          case rel => exact ⟨i + 1, by go_num, by omega, HK2, HB3, hidF (by rw [HTK.out, HMV.out]; exact HO.out)⟩
          case measure => simp [natOfV]; omega
        · have HF := hidF (okTo_false (tos := tos) hd (fun h => h.elim (fun h => h h2) hin))
          have e2 : (d.f0 == 2) = true := beq_iff_eq.2 h2
          have HQ : Hid (moveE e tos = []) := hidF (by unfold moveE; rw [HF.out]; rfl)
          have HQ2 : Hid (moveF e tos = 1) := hidF (by unfold moveF; rw [HF.out]; rfl)
          by_cases h3 : d.f1 < 0
          · have e3 : decide (d.f1 < 0) = true := decide_eq_true h3
            clear hd rdd h2 h3 hin
            go_wp2_with fail
            exact bodyPost_ret (v := .tuple #[.slice none 0 0, .int .i64 1]) (by simp [results, Tryz.results20, go_sem, *]) rfl ⟨_, by rw [HQ2.out], by rw [HQ.out]; exact Kd.R_nil _ _ _ _ _, HB.out.alloc HB.out.size _⟩
          · have e3 : decide (d.f1 < 0) = false := decide_eq_false h3
            have e4 : decide ((tos.length : Int) ≤ d.f1) = true := decide_eq_true (by omega)
            clear hd rdd h2 h3 hin
            go_wp2_with fail
            exact bodyPost_ret (v := .tuple #[.slice none 0 0, .int .i64 1]) (by simp [results, Tryz.results20, go_sem, *]) rfl ⟨_, by rw [HQ2.out], by rw [HQ.out]; exact Kd.R_nil _ _ _ _ _, HB.out.alloc HB.out.size _⟩
      · have HMV := hidF (mvD_not tos d h2)
        have HK2 := hidF (okTo_take (tos := tos) hd HK.out (.inl h2))
        have e2 : (d.f0 == 2) = false := beq_eq_false_iff_ne.2 h2
        have HRa := hidF (Kd.R_alloc HR.out (.cells #[.int .i64 d.f0, .int .i64 d.f1, .int .i64 d.f2.f0, .int .i64 d.f2.f1, .int .u64 d.f2.f2, .string d.f2.f3] 41))
        have HBa := hidF (HB.out.alloc HB.out.size (.cells #[.int .i64 d.f0, .int .i64 d.f1, .int .i64 d.f2.f0, .int .i64 d.f2.f1, .int .u64 d.f2.f2, .string d.f2.f3] 41))
        clear hd rdd h2
        go_wp2_with (first | ((with_reducible refine gate_builtin (b := .append) (xs := #[.tmp 39, .tmp 41]) rfl ?_); at_builtin; refine Kd.R_append k41 (w0 := w) w.heap.size ?h1 (.tmp 39) (.tmp 41) 23 41 (.agg #[(.int .i64 0), (.int .i64 0), (.int .i64 0), (.int .i64 0), (.int .u64 0), (.string ⟨#[]⟩)]) 56 ?h2 ?h3 ?h4 ?h5 ?h6 ?h7 (.slice A1 ((e.take i).map (mvD tos)).length c1) ((e.take i).map (mvD tos)) d [.int .i64 d.f0, .int .i64 d.f1, .int .i64 d.f2.f0, .int .i64 d.f2.f1, .int .u64 d.f2.f2, .string d.f2.f3] (fun _ => True) (fun _ => False) ?h8 ?h9 ?aP ?hk ?aF ?aO ?aB ?aS ?aL ?_; (case h1 => exact rfl); (case h2 => exact rfl); (case h3 => exact Tryz.underlying23); (case h4 => exact infoDd); (case h5 => exact rfl); (case h6 => decide); (case h7 => omega); (case h8 => exact rfl); (case h9 => first | exact rfl | (go_simp; done) | (simp [Act.eval]; done) | (simp [go_sem]; done)); (case hk => exact (fun _ hk => hk.elim)); (case aP => exact k41_mkM _ _ _ _); (case aF => exact (fun _ _ => trivial)); (case aO => exact HRa.out); (case aB => exact HBa.out); (case aS => exact HBa.out.size); (case aL => omega); intro v1 w3 ho hb hg hat; have HO := hidF ho; have HB3 := hidF hb; clear ho hb hg hat))
        go_roundw
        case rel => exact ⟨i + 1, by go_num, by omega, HK2, HB3, hidF (by rw [HTK.out, HMV.out]; exact HO.out)⟩
        case measure => simp [natOfV]; omega
    · have hie : i = e.length := by omega
      have hok : okTo e tos = true := by have := HK.out; rwa [hie, List.take_of_length_le (Nat.le_refl _)] at this
      have HR2 : Hid (Kd.R k41 41 wr w.heap.size (fun _ => True) _ (moveE e tos)) := hidF (by
        have := HR.out
        rw [hie, List.take_of_length_le (Nat.le_refl _)] at this
        unfold moveE; rw [hok]; exact this)
      have HQ2 : Hid (moveF e tos = 0) := hidF (by unfold moveF; rw [hok]; rfl)
      obtain ⟨A1, c1, rfl⟩ := Kd.R_slice HR2.out
      have hii : ¬ (i : Int) < (e.length : Int) := by omega
      clear hie hok hlt hil HR
      go_wp2_with fail
      exact bodyPost_ret (v := .tuple #[.slice A1 (moveE e tos).length c1, .int .i64 0]) (by simp [results, Tryz.results20, go_sem, *]) rfl ⟨_, by rw [HQ2.out], HR2.out, HB.out⟩
def xRMove.f (l : List S41) (m : List Int) : Option (List S41 × Int) := if l.length ≤ 1000000 then some (moveE l m, moveF l m) else none
theorem xRMove.calls (A0 : Option Addr) (c0 : Nat) (l : List S41) (A1 : Option Addr) (c1 : Nat) (m : List Int) (r1 : List S41) (r2 : Int) (w : World) (hr0 : Kd.C k41 w A0 l.length l) (hc0 : l.length ≤ c0) (hr1 : Kd.C (Kd.int .i64) w A1 m.length m) (hc1 : m.length ≤ c1) (h : xRMove.f l m = some (r1, r2)) :
    Calls Tryz.prog 20 #[.slice A0 l.length c0, .slice A1 m.length c1] w fun e w' => ∃ v0_ : Value, e = .returned (.tuple #[v0_, .int .i64 r2]) ∧ Kd.R k41 41 w' w.heap.size (fun _ => True) v0_ r1 ∧ Below w.heap.size w w' := by
  obtain ⟨hl, he⟩ := ext_of h
  simp only [Prod.mk.injEq] at he
  obtain ⟨rfl, rfl⟩ := he
  exact rmove_c A0 c0 l A1 c1 m w hr0 hr1 hl
end Go.Proofs.YtakcjiinchghaaaGreatDoor
end
