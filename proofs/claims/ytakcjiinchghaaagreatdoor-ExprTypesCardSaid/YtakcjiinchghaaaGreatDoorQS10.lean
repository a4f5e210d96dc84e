/- a part of the claim: what the card leans on, out of the texts E6, EK4, EK5, EM1, EM2, ES1, EC1, EC2, XE3, EA1, EA2, EA3, EL5 (put together by wip/tools/shake.py). -/
import Derived.Test.YtakcjiinchghaaaGreatDoorQS1
import Derived.Test.YtakcjiinchghaaaGreatDoorQS2
import Derived.Test.YtakcjiinchghaaaGreatDoorQS5
import Derived.Test.YtakcjiinchghaaaGreatDoorQS6
import Derived.Test.YtakcjiinchghaaaGreatDoorQS7
import Derived.Test.YtakcjiinchghaaaGreatDoorQS8
import Derived.Test.YtakcjiinchghaaaGreatDoorQS9
import Derived.RegionTactic
import Derived.BigRegion
import Derived.Laws.Externs
import Derived.Laws.BitsLemmas
import Derived.Lib.SliceRun
import Derived.Sort.OwnSortedInts
section
namespace Go.Proofs.YtakcjiinchghaaaGreatDoor
set_option linter.unusedVariables false
set_option linter.unusedSimpArgs false
open Go.RowKit Go.Proofs.YtakcjiinchghaaaGreatDoorW.PrintWords Go.Proofs.YtakcjiinchghaaaGreatDoorW.PrintLast PRW
theorem takes_ev (w : Int) (d : S41) (hd : I64 d.f2.f1) : Ev (fun k => expr_takes.f k d.f0 d.f1 d.f2.f0 d.f2.f1 d.f2.f2 d.f2.f3 w) (takesE w d) := by
  have j3 : ∀ b : Bool, Ev (fun k => expr_takes.j3 k b d.f0 d.f1 d.f2.f0 d.f2.f1 d.f2.f2 d.f2.f3) (if b = true then 1 else if 10 ≤ d.f0 ∧ d.f0 ≤ 24 then 2 else -1) := fun b => by
    refine Ev.step (f := fun _ => some _) (fun k => ?_) (Ev.now _)
    rw [expr_takes.j3]
    cases b
    · rw [if_neg Bool.false_ne_true, if_neg Bool.false_ne_true]
      by_cases h1 : d.f0 ≥ 10
      · by_cases h2 : d.f0 ≤ 24
        · rw [if_pos h1, if_pos h2, if_pos ⟨h1, h2⟩]
        · rw [if_pos h1, if_neg h2, if_neg (fun h => h2 h.2)]
      · rw [if_neg h1, if_neg (fun h => h1 h.1)]
    · rw [if_pos rfl, if_pos rfl]
  have j2 : ∀ b : Bool, Ev (fun k => expr_takes.j2 k b d.f0 d.f1 d.f2.f0 d.f2.f1 d.f2.f2 d.f2.f3) (if b = true ∨ (d.f0 = 6 ∧ 1 ≤ d.f1 ∧ d.f1 ≤ 4) then 1 else if 10 ≤ d.f0 ∧ d.f0 ≤ 24 then 2 else -1) := fun b => by
    cases b
    · have h0 := j3 (decide (d.f0 = 6 ∧ 1 ≤ d.f1 ∧ d.f1 ≤ 4))
      simp only [decide_eq_true_eq] at h0
      simp only [Bool.false_eq_true, false_or]
      refine Ev.step (fun k => ?_) h0
      rw [expr_takes.j2, if_neg Bool.false_ne_true]
      by_cases h1 : d.f0 = 6
      · by_cases h2 : d.f1 ≥ 1
        · rw [if_pos h1, if_pos h2]
          have : decide (d.f1 ≤ 4) = decide (d.f0 = 6 ∧ 1 ≤ d.f1 ∧ d.f1 ≤ 4) := decide_eq_decide.2 ⟨fun h => ⟨h1, h2, h⟩, fun h => h.2.2⟩
          rw [this]
        · rw [if_pos h1, if_neg h2, decide_eq_false (fun h => h2 h.2.1)]
      · rw [if_neg h1, decide_eq_false (fun h => h1 h.1)]
    · have h0 := j3 true
      rw [if_pos rfl] at h0
      rw [if_pos (.inl rfl)]
      refine Ev.step (fun k => ?_) h0
      rw [expr_takes.j2, if_pos rfl]
  have j1 : ∀ b : Bool, Ev (fun k => expr_takes.j1 k b d.f0 d.f1 d.f2.f0 d.f2.f1 d.f2.f2 d.f2.f3) (if b = true then 0 else if (3 ≤ d.f0 ∧ d.f0 ≤ 5) ∨ (d.f0 = 6 ∧ 1 ≤ d.f1 ∧ d.f1 ≤ 4) then 1 else if 10 ≤ d.f0 ∧ d.f0 ≤ 24 then 2 else -1) := fun b => by
    cases b
    · have h0 := j2 (decide (3 ≤ d.f0 ∧ d.f0 ≤ 5))
      simp only [decide_eq_true_eq] at h0
      rw [if_neg Bool.false_ne_true]
      refine Ev.step (fun k => ?_) h0
      rw [expr_takes.j1, if_neg Bool.false_ne_true]
      by_cases h1 : d.f0 ≥ 3
      · rw [if_pos h1]
        have : decide (d.f0 ≤ 5) = decide (3 ≤ d.f0 ∧ d.f0 ≤ 5) := decide_eq_decide.2 ⟨fun h => ⟨h1, h⟩, fun h => h.2⟩
        rw [this]
      · rw [if_neg h1, decide_eq_false (fun h => h1 h.1)]
    · rw [if_pos rfl]
      refine Ev.step (f := fun _ => some 0) (fun k => ?_) (Ev.now _)
      rw [expr_takes.j1, if_pos rfl]
  have j0 : ∀ b : Bool, Ev (fun k => expr_takes.j0 k w b d.f0 d.f1 d.f2.f0 d.f2.f1 d.f2.f2 d.f2.f3) (if b = true ∨ (d.f0 = 2 ∧ 0 ≤ d.f1 ∧ d.f1 < w) then 0 else if (3 ≤ d.f0 ∧ d.f0 ≤ 5) ∨ (d.f0 = 6 ∧ 1 ≤ d.f1 ∧ d.f1 ≤ 4) then 1 else if 10 ≤ d.f0 ∧ d.f0 ≤ 24 then 2 else -1) := fun b => by
    cases b
    · have h0 := j1 (decide (d.f0 = 2 ∧ 0 ≤ d.f1 ∧ d.f1 < w))
      simp only [decide_eq_true_eq] at h0
      simp only [Bool.false_eq_true, false_or]
      refine Ev.step (fun k => ?_) h0
      rw [expr_takes.j0, if_neg Bool.false_ne_true]
      by_cases h1 : d.f0 = 2
      · by_cases h2 : d.f1 ≥ 0
        · rw [if_pos h1, if_pos h2]
          have : decide (d.f1 < w) = decide (d.f0 = 2 ∧ 0 ≤ d.f1 ∧ d.f1 < w) := decide_eq_decide.2 ⟨fun h => ⟨h1, h2, h⟩, fun h => h.2.2⟩
          rw [this]
        · rw [if_pos h1, if_neg h2, decide_eq_false (fun h => h2 h.2.1)]
      · rw [if_neg h1, decide_eq_false (fun h => h1 h.1)]
    · have h0 := j1 true
      rw [if_pos rfl] at h0
      rw [if_pos (.inl rfl)]
      refine Ev.step (fun k => ?_) h0
      rw [expr_takes.j0, if_pos rfl]
  unfold takesE
  by_cases h1 : d.f0 = 1
  · have h0 := j0 (soundV d.f2.f0 d.f2.f1 d.f2.f2 d.f2.f3)
    have e1 : ((d.f0 = 1 ∧ soundV d.f2.f0 d.f2.f1 d.f2.f2 d.f2.f3 = true) ∨ (d.f0 = 2 ∧ 0 ≤ d.f1 ∧ d.f1 < w)) = (soundV d.f2.f0 d.f2.f1 d.f2.f2 d.f2.f3 = true ∨ (d.f0 = 2 ∧ 0 ≤ d.f1 ∧ d.f1 < w)) := by simp [h1]
    simp only [e1]
    refine Ev.congr (fun k => ?_) h0
    rw [expr_takes.f, if_pos h1, xSound.f, if_pos (show -9223372036854775808 ≤ d.f2.f1 ∧ d.f2.f1 ≤ 9223372036854775807 from hd)]; rfl
  · have h0 := j0 false
    have e1 : ((d.f0 = 1 ∧ soundV d.f2.f0 d.f2.f1 d.f2.f2 d.f2.f3 = true) ∨ (d.f0 = 2 ∧ 0 ≤ d.f1 ∧ d.f1 < w)) = (false = true ∨ (d.f0 = 2 ∧ 0 ≤ d.f1 ∧ d.f1 < w)) := by simp [h1]
    simp only [e1]
    exact Ev.congr (fun k => by rw [expr_takes.f, if_neg h1]) h0
theorem w64n {n : Int} (h0 : -9223372036854775808 ≤ n) (h1 : n ≤ 9223372036854775807) : wrap64 n = n := by unfold wrap64; omega
theorem esound_ev (e : List S41) (w : Int) (hd : ∀ d ∈ e, I64 d.f2.f1) : Ev (fun k => expr_Sound.f k e w) (soundE e w) := by
  unfold soundE
  by_cases hl : (e.length : Int) > 4000
  · rw [decide_eq_false (show ¬ e.length ≤ 4000 by omega), Bool.false_and]
    exact Ev.congr (fun k => by rw [expr_Sound.f, if_pos hl]) (Ev.now _)
  · rw [decide_eq_true (show e.length ≤ 4000 by omega), Bool.true_and]
    have main : ∀ n i : Nat, i + n = e.length → ∀ h : Int, 0 ≤ h → h ≤ (i : Int) → Ev (fun k => expr_Sound.l0 k w h e (e.length : Int) (i : Int)) (decide (mh (takesE w) (e.drop i) h = some 1)) := by
      intro n
      induction n with
      | zero =>
        intro i hi h h0 h1
        rw [List.drop_of_length_le (by omega), mh]
        refine Ev.step (f := fun _ => some _) (fun k => ?_) (Ev.now _)
        rw [expr_Sound.l0, if_neg (by omega)]
        congr 1
        rw [Bool.eq_iff_iff]; simp
      | succ n ih =>
        intro i hi h h0 h1
        have hlt : i < e.length := by omega
        have hrd : rd_T41 e (i : Int) = e[i] := by unfold rd_T41; simp [hlt]
        have htk := takes_ev w e[i] (hd _ (List.getElem_mem hlt))
        have ok := takes_ok w e[i]
        rw [List.drop_eq_getElem_cons hlt, mh]
        have top : ∀ k, expr_Sound.l0 (k + 1) w h e (e.length : Int) (i : Int) = ((expr_takes.f k e[i].f0 e[i].f1 e[i].f2.f0 e[i].f2.f1 e[i].f2.f2 e[i].f2.f3 w).bind fun t105 => (if t105 < 0 then (some false) else (if t105 > h then (some false) else (expr_Sound.l0 k w (wrap64 (h + (wrap64 (1 - t105)))) e (e.length : Int) (wrap64 ((i : Int) + 1)))))) := fun k => by
          rw [expr_Sound.l0, if_pos (by omega), if_pos (by omega), if_pos (by omega), hrd]
        refine Ev.step top (Ev.bind htk ?_)
        generalize takesE w e[i] = q at *
        by_cases c1 : q < 0
        · rw [if_pos (.inl c1), show decide ((none : Option Int) = some 1) = false from rfl]
          exact Ev.congr (fun k => if_pos c1) (Ev.now _)
        by_cases c2 : h < q
        · rw [if_pos (.inr c2), show decide ((none : Option Int) = some 1) = false from rfl]
          exact Ev.congr (fun k => by rw [if_neg c1, if_pos (show q > h from c2)]) (Ev.now _)
        rw [if_neg (by omega)]
        have hq : q ≤ 2 := by omega
        refine Ev.congr (fun k => ?_) (ih (i + 1) (by omega) (h + 1 - q) (by omega) (by omega))
        rw [if_neg c1, if_neg (by omega), w64n (n := 1 - q) (by omega) (by omega), w64n (n := h + (1 - q)) (by omega) (by omega), w64n (n := (i : Int) + 1) (by omega) (by omega), show h + (1 - q) = h + 1 - q by omega]; rfl
    have h := main e.length 0 (by omega) 0 (by omega) (by omega)
    rw [List.drop_zero] at h
    exact Ev.congr (fun k => by rw [expr_Sound.f, if_neg hl]; rfl) h
theorem esound_c (A : Option Addr) (c : Nat) (e : List S41) (w : Int) (W : World) (hC : Kd.C k41 W A e.length e) (hc : e.length ≤ c) (hd : ∀ d ∈ e, I64 d.f2.f1) :
    Calls Tryz.prog 13 #[.slice A e.length c, .int .i64 w] W fun en w' => en = .returned (.bool (soundE e w)) ∧ Below W.heap.size W w' := by
  obtain ⟨k, hk⟩ := esound_ev e w hd
  exact expr_Sound.calls k A c e w _ W hC hc (hk k (Nat.le_refl _))
set_option maxRecDepth 100000 in
set_option maxHeartbeats 8000000 in
theorem eval_c (A : Option Addr) (c : Nat) (e : List S41) (A' : Option Addr) (c' : Nat) (r : List S29) (w : World) (hC : Kd.C k41 w A e.length e) (hc : e.length ≤ c) (hC' : Kd.C k29 w A' r.length r) (ht : Tab w)
    (hd : ∀ d ∈ e, I64 d.f2.f1) (hr : ∀ x ∈ r, I64 x.f1) :
    Calls Tryz.prog 11 #[.slice A e.length c, .slice A' r.length c'] w fun en w' => en = .returned (.tuple #[.agg #[.int .i64 (evalE e r).v.f0, .int .i64 (evalE e r).v.f1, .int .u64 (evalE e r).v.f2, .string (evalE e r).v.f3], .int .i64 (evalE e r).e]) ∧ Below w.heap.size w w' := by
  have RS := hidF (fun W (hb : Below w.heap.size w W) => rowSound_c A' c' r W (Kd.C_below hC' hb) hr)
  have ES := hidF (fun W (hb : Below w.heap.size w W) => esound_c A c e (r.length : Int) W (Kd.C_below hC hb) hc hd)
  cases s1 : soundL r
  · have hE : evalE e r = ⟨zV, 1⟩ := by unfold evalE; rw [s1]; rfl
    rw [hE]
    rw [s1] at RS
    clear hC hC' hd hr ht hc s1 hE
    go_enter Tryz.func11, Tryz.ntmps11
    go_wp2_with (first | (go_at_call 30; (fail_if_success (have := w1)); ((with_reducible refine (RS.out _ (by repeat (first | (with_reducible exact Below.refl _ _) | (with_reducible refine below_al ?_ _) | (with_reducible refine below_drewN ?_ _) | (with_reducible refine Below.drew ?_) | (with_reducible refine below_via (by assumption) ?_) | (with_reducible refine below_sc ?_ ?_ _; · (first | (simp; done) | (simp; omega) | omega))))).mono ?_); rintro e w1 ⟨rfl, hb1⟩; (try (replace hb1 := below_undrew hb1)); (try (replace hb1 := below_undrewN hb1)); obtain ⟨hc1, hf1⟩ := bcell hb1; (try (have hz0_1 : w.heap.size < w1.heap.size := (by have := hb1.size; (try simp at this); omega))); (try (have hz1_1 : w.heap.size + 1 < w1.heap.size := (by have := hb1.size; (try simp at this); omega))))) | (go_at_call 30; (fail_if_success (have := w2)); ((with_reducible refine (RS.out _ (by repeat (first | (with_reducible exact Below.refl _ _) | (with_reducible refine below_al ?_ _) | (with_reducible refine below_drewN ?_ _) | (with_reducible refine Below.drew ?_) | (with_reducible refine below_via (by assumption) ?_) | (with_reducible refine below_sc ?_ ?_ _; · (first | (simp; done) | (simp; omega) | omega))))).mono ?_); rintro e w2 ⟨rfl, hb2⟩; (try (replace hb2 := below_undrew hb2)); (try (replace hb2 := below_undrewN hb2)); obtain ⟨hc2, hf2⟩ := bcell hb2; (try (have hz0_2 : w.heap.size < w2.heap.size := (by have := hb2.size; (try simp at this); omega))); (try (have hz1_2 : w.heap.size + 1 < w2.heap.size := (by have := hb2.size; (try simp at this); omega))); (try (have hz_1_2 : w1.heap.size < w2.heap.size := (by have := hb2.size; (try simp at this); omega))))))
    exact bodyPost_ret (v := .tuple #[.agg #[.int .i64 0, .int .i64 0, .int .u64 0, .string ⟨#[]⟩], .int .i64 1]) (by simp [results, Tryz.results11, go_sem, *]) rfl ⟨rfl, (by repeat (first | (with_reducible exact Below.refl _ _) | (with_reducible refine below_al ?_ _) | (with_reducible refine below_drewN ?_ _) | (with_reducible refine Below.drew ?_) | (with_reducible refine below_via (by assumption) ?_) | (with_reducible refine below_sc ?_ ?_ _; · (first | (simp; done) | (simp; omega) | omega))))⟩
  · cases s2 : soundE e (r.length : Int)
    · have hE : evalE e r = ⟨zV, 1⟩ := by unfold evalE; rw [s1, s2]; rfl
      rw [hE]
      rw [s1] at RS
      rw [s2] at ES
      clear hC hC' hd hr ht hc s1 s2 hE
      go_enter Tryz.func11, Tryz.ntmps11
      go_wp2_with (first | (go_at_call 30; (fail_if_success (have := w1)); ((with_reducible refine (RS.out _ (by repeat (first | (with_reducible exact Below.refl _ _) | (with_reducible refine below_al ?_ _) | (with_reducible refine below_drewN ?_ _) | (with_reducible refine Below.drew ?_) | (with_reducible refine below_via (by assumption) ?_) | (with_reducible refine below_sc ?_ ?_ _; · (first | (simp; done) | (simp; omega) | omega))))).mono ?_); rintro e w1 ⟨rfl, hb1⟩; (try (replace hb1 := below_undrew hb1)); (try (replace hb1 := below_undrewN hb1)); obtain ⟨hc1, hf1⟩ := bcell hb1; (try (have hz0_1 : w.heap.size < w1.heap.size := (by have := hb1.size; (try simp at this); omega))); (try (have hz1_1 : w.heap.size + 1 < w1.heap.size := (by have := hb1.size; (try simp at this); omega))))) | (go_at_call 13; (fail_if_success (have := w1)); ((with_reducible refine (ES.out _ (by repeat (first | (with_reducible exact Below.refl _ _) | (with_reducible refine below_al ?_ _) | (with_reducible refine below_drewN ?_ _) | (with_reducible refine Below.drew ?_) | (with_reducible refine below_via (by assumption) ?_) | (with_reducible refine below_sc ?_ ?_ _; · (first | (simp; done) | (simp; omega) | omega))))).mono ?_); rintro e w1 ⟨rfl, hb1⟩; (try (replace hb1 := below_undrew hb1)); (try (replace hb1 := below_undrewN hb1)); obtain ⟨hc1, hf1⟩ := bcell hb1; (try (have hz0_1 : w.heap.size < w1.heap.size := (by have := hb1.size; (try simp at this); omega))); (try (have hz1_1 : w.heap.size + 1 < w1.heap.size := (by have := hb1.size; (try simp at this); omega))))) | (go_at_call 30; (fail_if_success (have := w2)); ((with_reducible refine (RS.out _ (by repeat (first | (with_reducible exact Below.refl _ _) | (with_reducible refine below_al ?_ _) | (with_reducible refine below_drewN ?_ _) | (with_reducible refine Below.drew ?_) | (with_reducible refine below_via (by assumption) ?_) | (with_reducible refine below_sc ?_ ?_ _; · (first | (simp; done) | (simp; omega) | omega))))).mono ?_); rintro e w2 ⟨rfl, hb2⟩; (try (replace hb2 := below_undrew hb2)); (try (replace hb2 := below_undrewN hb2)); obtain ⟨hc2, hf2⟩ := bcell hb2; (try (have hz0_2 : w.heap.size < w2.heap.size := (by have := hb2.size; (try simp at this); omega))); (try (have hz1_2 : w.heap.size + 1 < w2.heap.size := (by have := hb2.size; (try simp at this); omega))); (try (have hz_1_2 : w1.heap.size < w2.heap.size := (by have := hb2.size; (try simp at this); omega))))) | (go_at_call 13; (fail_if_success (have := w2)); ((with_reducible refine (ES.out _ (by repeat (first | (with_reducible exact Below.refl _ _) | (with_reducible refine below_al ?_ _) | (with_reducible refine below_drewN ?_ _) | (with_reducible refine Below.drew ?_) | (with_reducible refine below_via (by assumption) ?_) | (with_reducible refine below_sc ?_ ?_ _; · (first | (simp; done) | (simp; omega) | omega))))).mono ?_); rintro e w2 ⟨rfl, hb2⟩; (try (replace hb2 := below_undrew hb2)); (try (replace hb2 := below_undrewN hb2)); obtain ⟨hc2, hf2⟩ := bcell hb2; (try (have hz0_2 : w.heap.size < w2.heap.size := (by have := hb2.size; (try simp at this); omega))); (try (have hz1_2 : w.heap.size + 1 < w2.heap.size := (by have := hb2.size; (try simp at this); omega))); (try (have hz_1_2 : w1.heap.size < w2.heap.size := (by have := hb2.size; (try simp at this); omega))))))
      exact bodyPost_ret (v := .tuple #[.agg #[.int .i64 0, .int .i64 0, .int .u64 0, .string ⟨#[]⟩], .int .i64 1]) (by simp [results, Tryz.results11, go_sem, *]) rfl ⟨rfl, (by repeat (first | (with_reducible exact Below.refl _ _) | (with_reducible refine below_al ?_ _) | (with_reducible refine below_drewN ?_ _) | (with_reducible refine Below.drew ?_) | (with_reducible refine below_via (by assumption) ?_) | (with_reducible refine below_sc ?_ ?_ _; · (first | (simp; done) | (simp; omega) | omega))))⟩
    · obtain ⟨x, hx, _⟩ := runC_one r s2
      have hE : evalE e r = x := by unfold evalE; rw [s1, s2]; simp [hx]
      rw [hE]
      have RN : Hid (∀ rb W, Below w.heap.size w W → W.cell? ⟨rb, 0, none⟩ = some (.slice A' r.length c') → Calls Tryz.prog 37 #[.slice A e.length c, .func (.func 31) #[] #[.pointer (some ⟨rb, 0, none⟩)], .func (.func 32) #[] #[], .func (.func 34) #[] #[]] W fun en w' => en = .returned (.agg #[.int .i64 x.v.f0, .int .i64 x.v.f1, .int .u64 x.v.f2, .string x.v.f3, .int .i64 x.e]) ∧ Below W.heap.size W w') := hidF fun rb W hb hcell =>
        runC_c rb r A c e W (Kd.C_below hC hb) (soundE_iff.1 s2).1 (soundE_iff.1 s2).2
          ⟨fun W2 d hb2 h2 => eval1_c rb A' c' r d W2 ((hb2.cell (p := ⟨rb, 0, none⟩) (World.block_lt_of_cell? W _ hcell)).trans hcell) (Kd.C_below (Kd.C_below hC' hb) hb2) h2,
           fun W2 d a hb2 hg => eval2_c d a W2 ((ht.below hb).below hb2) hg,
           fun W2 d a b hg hg' => eval3_c d a b W2 hg hg'⟩ hr hd x hx
      rw [s1] at RS
      rw [s2] at ES
      obtain ⟨⟨x0, x1, x2, x3⟩, xe⟩ := x
      simp only at RN ⊢
      clear hC hC' hd hr ht hc s1 s2 hE hx
      go_enter Tryz.func11, Tryz.ntmps11
      go_wp2_with (first | (go_at_call 30; (fail_if_success (have := w1)); ((with_reducible refine (RS.out _ (by repeat (first | (with_reducible exact Below.refl _ _) | (with_reducible refine below_al ?_ _) | (with_reducible refine below_drewN ?_ _) | (with_reducible refine Below.drew ?_) | (with_reducible refine below_via (by assumption) ?_) | (with_reducible refine below_sc ?_ ?_ _; · (first | (simp; done) | (simp; omega) | omega))))).mono ?_); rintro e w1 ⟨rfl, hb1⟩; (try (replace hb1 := below_undrew hb1)); (try (replace hb1 := below_undrewN hb1)); obtain ⟨hc1, hf1⟩ := bcell hb1; (try (have hz0_1 : w.heap.size < w1.heap.size := (by have := hb1.size; (try simp at this); omega))); (try (have hz1_1 : w.heap.size + 1 < w1.heap.size := (by have := hb1.size; (try simp at this); omega))))) | (go_at_call 13; (fail_if_success (have := w1)); ((with_reducible refine (ES.out _ (by repeat (first | (with_reducible exact Below.refl _ _) | (with_reducible refine below_al ?_ _) | (with_reducible refine below_drewN ?_ _) | (with_reducible refine Below.drew ?_) | (with_reducible refine below_via (by assumption) ?_) | (with_reducible refine below_sc ?_ ?_ _; · (first | (simp; done) | (simp; omega) | omega))))).mono ?_); rintro e w1 ⟨rfl, hb1⟩; (try (replace hb1 := below_undrew hb1)); (try (replace hb1 := below_undrewN hb1)); obtain ⟨hc1, hf1⟩ := bcell hb1; (try (have hz0_1 : w.heap.size < w1.heap.size := (by have := hb1.size; (try simp at this); omega))); (try (have hz1_1 : w.heap.size + 1 < w1.heap.size := (by have := hb1.size; (try simp at this); omega))))) | (go_at_call 37; (fail_if_success (have := w1)); ((with_reducible refine (RN.out _ _ (by repeat (first | (with_reducible exact Below.refl _ _) | (with_reducible refine below_al ?_ _) | (with_reducible refine below_drewN ?_ _) | (with_reducible refine Below.drew ?_) | (with_reducible refine below_via (by assumption) ?_) | (with_reducible refine below_sc ?_ ?_ _; · (first | (simp; done) | (simp; omega) | omega)))) (by simp [go_sem, *])).mono ?_); rintro e w1 ⟨rfl, hb1⟩; (try (replace hb1 := below_undrew hb1)); (try (replace hb1 := below_undrewN hb1)); obtain ⟨hc1, hf1⟩ := bcell hb1; (try (have hz0_1 : w.heap.size < w1.heap.size := (by have := hb1.size; (try simp at this); omega))); (try (have hz1_1 : w.heap.size + 1 < w1.heap.size := (by have := hb1.size; (try simp at this); omega))))) | (go_at_call 30; (fail_if_success (have := w2)); ((with_reducible refine (RS.out _ (by repeat (first | (with_reducible exact Below.refl _ _) | (with_reducible refine below_al ?_ _) | (with_reducible refine below_drewN ?_ _) | (with_reducible refine Below.drew ?_) | (with_reducible refine below_via (by assumption) ?_) | (with_reducible refine below_sc ?_ ?_ _; · (first | (simp; done) | (simp; omega) | omega))))).mono ?_); rintro e w2 ⟨rfl, hb2⟩; (try (replace hb2 := below_undrew hb2)); (try (replace hb2 := below_undrewN hb2)); obtain ⟨hc2, hf2⟩ := bcell hb2; (try (have hz0_2 : w.heap.size < w2.heap.size := (by have := hb2.size; (try simp at this); omega))); (try (have hz1_2 : w.heap.size + 1 < w2.heap.size := (by have := hb2.size; (try simp at this); omega))); (try (have hz_1_2 : w1.heap.size < w2.heap.size := (by have := hb2.size; (try simp at this); omega))))) | (go_at_call 13; (fail_if_success (have := w2)); ((with_reducible refine (ES.out _ (by repeat (first | (with_reducible exact Below.refl _ _) | (with_reducible refine below_al ?_ _) | (with_reducible refine below_drewN ?_ _) | (with_reducible refine Below.drew ?_) | (with_reducible refine below_via (by assumption) ?_) | (with_reducible refine below_sc ?_ ?_ _; · (first | (simp; done) | (simp; omega) | omega))))).mono ?_); rintro e w2 ⟨rfl, hb2⟩; (try (replace hb2 := below_undrew hb2)); (try (replace hb2 := below_undrewN hb2)); obtain ⟨hc2, hf2⟩ := bcell hb2; (try (have hz0_2 : w.heap.size < w2.heap.size := (by have := hb2.size; (try simp at this); omega))); (try (have hz1_2 : w.heap.size + 1 < w2.heap.size := (by have := hb2.size; (try simp at this); omega))); (try (have hz_1_2 : w1.heap.size < w2.heap.size := (by have := hb2.size; (try simp at this); omega))))) | (go_at_call 37; (fail_if_success (have := w2)); ((with_reducible refine (RN.out _ _ (by repeat (first | (with_reducible exact Below.refl _ _) | (with_reducible refine below_al ?_ _) | (with_reducible refine below_drewN ?_ _) | (with_reducible refine Below.drew ?_) | (with_reducible refine below_via (by assumption) ?_) | (with_reducible refine below_sc ?_ ?_ _; · (first | (simp; done) | (simp; omega) | omega)))) (by simp [go_sem, *])).mono ?_); rintro e w2 ⟨rfl, hb2⟩; (try (replace hb2 := below_undrew hb2)); (try (replace hb2 := below_undrewN hb2)); obtain ⟨hc2, hf2⟩ := bcell hb2; (try (have hz0_2 : w.heap.size < w2.heap.size := (by have := hb2.size; (try simp at this); omega))); (try (have hz1_2 : w.heap.size + 1 < w2.heap.size := (by have := hb2.size; (try simp at this); omega))); (try (have hz_1_2 : w1.heap.size < w2.heap.size := (by have := hb2.size; (try simp at this); omega))))) | (go_at_call 30; (fail_if_success (have := w3)); ((with_reducible refine (RS.out _ (by repeat (first | (with_reducible exact Below.refl _ _) | (with_reducible refine below_al ?_ _) | (with_reducible refine below_drewN ?_ _) | (with_reducible refine Below.drew ?_) | (with_reducible refine below_via (by assumption) ?_) | (with_reducible refine below_sc ?_ ?_ _; · (first | (simp; done) | (simp; omega) | omega))))).mono ?_); rintro e w3 ⟨rfl, hb3⟩; (try (replace hb3 := below_undrew hb3)); (try (replace hb3 := below_undrewN hb3)); obtain ⟨hc3, hf3⟩ := bcell hb3; (try (have hz0_3 : w.heap.size < w3.heap.size := (by have := hb3.size; (try simp at this); omega))); (try (have hz1_3 : w.heap.size + 1 < w3.heap.size := (by have := hb3.size; (try simp at this); omega))); (try (have hz_1_3 : w1.heap.size < w3.heap.size := (by have := hb3.size; (try simp at this); omega))); (try (have hz_2_3 : w2.heap.size < w3.heap.size := (by have := hb3.size; (try simp at this); omega))))) | (go_at_call 13; (fail_if_success (have := w3)); ((with_reducible refine (ES.out _ (by repeat (first | (with_reducible exact Below.refl _ _) | (with_reducible refine below_al ?_ _) | (with_reducible refine below_drewN ?_ _) | (with_reducible refine Below.drew ?_) | (with_reducible refine below_via (by assumption) ?_) | (with_reducible refine below_sc ?_ ?_ _; · (first | (simp; done) | (simp; omega) | omega))))).mono ?_); rintro e w3 ⟨rfl, hb3⟩; (try (replace hb3 := below_undrew hb3)); (try (replace hb3 := below_undrewN hb3)); obtain ⟨hc3, hf3⟩ := bcell hb3; (try (have hz0_3 : w.heap.size < w3.heap.size := (by have := hb3.size; (try simp at this); omega))); (try (have hz1_3 : w.heap.size + 1 < w3.heap.size := (by have := hb3.size; (try simp at this); omega))); (try (have hz_1_3 : w1.heap.size < w3.heap.size := (by have := hb3.size; (try simp at this); omega))); (try (have hz_2_3 : w2.heap.size < w3.heap.size := (by have := hb3.size; (try simp at this); omega))))) | (go_at_call 37; (fail_if_success (have := w3)); ((with_reducible refine (RN.out _ _ (by repeat (first | (with_reducible exact Below.refl _ _) | (with_reducible refine below_al ?_ _) | (with_reducible refine below_drewN ?_ _) | (with_reducible refine Below.drew ?_) | (with_reducible refine below_via (by assumption) ?_) | (with_reducible refine below_sc ?_ ?_ _; · (first | (simp; done) | (simp; omega) | omega)))) (by simp [go_sem, *])).mono ?_); rintro e w3 ⟨rfl, hb3⟩; (try (replace hb3 := below_undrew hb3)); (try (replace hb3 := below_undrewN hb3)); obtain ⟨hc3, hf3⟩ := bcell hb3; (try (have hz0_3 : w.heap.size < w3.heap.size := (by have := hb3.size; (try simp at this); omega))); (try (have hz1_3 : w.heap.size + 1 < w3.heap.size := (by have := hb3.size; (try simp at this); omega))); (try (have hz_1_3 : w1.heap.size < w3.heap.size := (by have := hb3.size; (try simp at this); omega))); (try (have hz_2_3 : w2.heap.size < w3.heap.size := (by have := hb3.size; (try simp at this); omega))))))
      go_region
      all_goals
        go_wp2
        exact bodyPost_ret (v := .tuple #[.agg #[.int .i64 x0, .int .i64 x1, .int .u64 x2, .string x3], .int .i64 xe]) (by simp [results, Tryz.results11, go_sem, *]) rfl ⟨rfl, (by repeat (first | (with_reducible exact Below.refl _ _) | (with_reducible refine below_al ?_ _) | (with_reducible refine below_drewN ?_ _) | (with_reducible refine Below.drew ?_) | (with_reducible refine below_via (by assumption) ?_) | (with_reducible refine below_sc ?_ ?_ _; · (first | (simp; done) | (simp; omega) | omega))))⟩
end Go.Proofs.YtakcjiinchghaaaGreatDoor
end
section
namespace Go.Proofs.YtakcjiinchghaaaGreatDoor
set_option linter.unusedVariables false
set_option linter.unusedSimpArgs false
open Go.RowKit Go.Proofs.YtakcjiinchghaaaGreatDoorW.PrintWords Go.Proofs.YtakcjiinchghaaaGreatDoorW.PrintLast PRW
/-- the functions of one value and of two, for every world -/
structure Kfn : Prop where
  one : ∀ (W : World) (d : S41) (a : Knd), 3 ≤ d.f0 ∧ d.f0 ≤ 6 → Calls Tryz.prog 78 #[.agg #[.int .i64 d.f0, .int .i64 d.f1, .int .i64 d.f2.f0, .int .i64 d.f2.f1, .int .u64 d.f2.f2, .string d.f2.f3], .agg #[.int .i64 a.of_, .bool a.null, .bool a.bad, .bool a.risk]] W fun e w' => e = .returned (kndA (kOne d a)) ∧ Below W.heap.size W w'
  two : ∀ (W : World) (d : S41) (a b : Knd), 10 ≤ d.f0 ∧ d.f0 ≤ 24 → Calls Tryz.prog 79 #[.agg #[.int .i64 d.f0, .int .i64 d.f1, .int .i64 d.f2.f0, .int .i64 d.f2.f1, .int .u64 d.f2.f2, .string d.f2.f3], .agg #[.int .i64 a.of_, .bool a.null, .bool a.bad, .bool a.risk], .agg #[.int .i64 b.of_, .bool b.null, .bool b.bad, .bool b.risk]] W fun e w' => e = .returned (kndA (kTwo d a b)) ∧ Below W.heap.size W w'
set_option maxRecDepth 100000 in
set_option maxHeartbeats 8000000 in
theorem typed_c (kf : Kfn) (A : Option Addr) (c : Nat) (e : List S41) (A' : Option Addr) (c' : Nat) (cols : List S57) (w : World) (hC : Kd.C k41 w A e.length e) (hc : e.length ≤ c) (hC' : Kd.C k57 w A' cols.length cols)
    (hd : ∀ d ∈ e, I64 d.f2.f1) :
    Calls Tryz.prog 44 #[.slice A e.length c, .slice A' cols.length c'] w fun en w' => en = .returned (.agg #[.int .i64 (typedE e cols).of_, .bool (typedE e cols).null, .bool (typedE e cols).bad, .bool (typedE e cols).risk]) ∧ Below w.heap.size w w' := by
  have ES := hidF (fun W (hb : Below w.heap.size w W) => esound_c A c e (cols.length : Int) W (Kd.C_below hC hb) hc hd)
  cases s2 : soundE e (cols.length : Int)
  · have hE : typedE e cols = ⟨0, false, true, false⟩ := by unfold typedE; rw [s2]; rfl
    rw [hE]
    rw [s2] at ES
    clear hC hC' hd hc s2 hE
    go_enter Tryz.func44, Tryz.ntmps44
    go_wp2_with (first | (go_at_call 13; (fail_if_success (have := w1)); ((with_reducible refine (ES.out _ (by repeat (first | (with_reducible exact Below.refl _ _) | (with_reducible refine below_al ?_ _) | (with_reducible refine below_drewN ?_ _) | (with_reducible refine Below.drew ?_) | (with_reducible refine below_via (by assumption) ?_) | (with_reducible refine below_sc ?_ ?_ _; · (first | (simp; done) | (simp; omega) | omega))))).mono ?_); rintro e w1 ⟨rfl, hb1⟩; (try (replace hb1 := below_undrew hb1)); (try (replace hb1 := below_undrewN hb1)); obtain ⟨hc1, hf1⟩ := bcell hb1; (try (have hz0_1 : w.heap.size < w1.heap.size := (by have := hb1.size; (try simp at this); omega))); (try (have hz1_1 : w.heap.size + 1 < w1.heap.size := (by have := hb1.size; (try simp at this); omega))))) | (go_at_call 13; (fail_if_success (have := w2)); ((with_reducible refine (ES.out _ (by repeat (first | (with_reducible exact Below.refl _ _) | (with_reducible refine below_al ?_ _) | (with_reducible refine below_drewN ?_ _) | (with_reducible refine Below.drew ?_) | (with_reducible refine below_via (by assumption) ?_) | (with_reducible refine below_sc ?_ ?_ _; · (first | (simp; done) | (simp; omega) | omega))))).mono ?_); rintro e w2 ⟨rfl, hb2⟩; (try (replace hb2 := below_undrew hb2)); (try (replace hb2 := below_undrewN hb2)); obtain ⟨hc2, hf2⟩ := bcell hb2; (try (have hz0_2 : w.heap.size < w2.heap.size := (by have := hb2.size; (try simp at this); omega))); (try (have hz1_2 : w.heap.size + 1 < w2.heap.size := (by have := hb2.size; (try simp at this); omega))); (try (have hz_1_2 : w1.heap.size < w2.heap.size := (by have := hb2.size; (try simp at this); omega))))))
    exact bodyPost_ret (v := .agg #[.int .i64 0, .bool false, .bool true, .bool false]) (by simp [results, Tryz.results44, go_sem, *]) rfl ⟨rfl, (by repeat (first | (with_reducible exact Below.refl _ _) | (with_reducible refine below_al ?_ _) | (with_reducible refine below_drewN ?_ _) | (with_reducible refine Below.drew ?_) | (with_reducible refine below_via (by assumption) ?_) | (with_reducible refine below_sc ?_ ?_ _; · (first | (simp; done) | (simp; omega) | omega))))⟩
  · obtain ⟨x, hx, _⟩ : ∃ x, runK cols e [] = [x] ∧ ∀ s, runK cols e s = x :: s := mrun_one (takes_ok (cols.length : Int)) (soundE_iff.1 s2).2
    have hE : typedE e cols = x := by
      unfold typedE
      have h1 : mrun (fun d => d.f0) (kNone cols) kOne kTwo e [] = [x] := hx
      rw [s2, if_pos rfl, h1]; rfl
    rw [hE]
    have RN : Hid (∀ rb W, Below w.heap.size w W → W.cell? ⟨rb, 0, none⟩ = some (.slice A' cols.length c') → Calls Tryz.prog 76 #[.slice A e.length c, .func (.func 77) #[] #[.pointer (some ⟨rb, 0, none⟩)], .func (.func 78) #[] #[], .func (.func 79) #[] #[]] W fun en w' => en = .returned (.agg #[.int .i64 x.of_, .bool x.null, .bool x.bad, .bool x.risk]) ∧ Below W.heap.size W w') := hidF fun rb W hb hcell =>
      runK_c rb cols A c e W (Kd.C_below hC hb) (soundE_iff.1 s2).1 (soundE_iff.1 s2).2
        ⟨fun W2 d hb2 h2 => typed1_c rb A' c' cols d W2 ((hb2.cell (p := ⟨rb, 0, none⟩) (World.block_lt_of_cell? W _ hcell)).trans hcell) (Kd.C_below (Kd.C_below hC' hb) hb2) h2,
         kf.one, kf.two⟩ x hx
    rw [s2] at ES
    obtain ⟨x0, x1, x2, x3⟩ := x
    simp only at RN ⊢
    clear hC hC' hd hc s2 hE hx
    go_enter Tryz.func44, Tryz.ntmps44
    go_wp2_with (first | (go_at_call 13; (fail_if_success (have := w1)); ((with_reducible refine (ES.out _ (by repeat (first | (with_reducible exact Below.refl _ _) | (with_reducible refine below_al ?_ _) | (with_reducible refine below_drewN ?_ _) | (with_reducible refine Below.drew ?_) | (with_reducible refine below_via (by assumption) ?_) | (with_reducible refine below_sc ?_ ?_ _; · (first | (simp; done) | (simp; omega) | omega))))).mono ?_); rintro e w1 ⟨rfl, hb1⟩; (try (replace hb1 := below_undrew hb1)); (try (replace hb1 := below_undrewN hb1)); obtain ⟨hc1, hf1⟩ := bcell hb1; (try (have hz0_1 : w.heap.size < w1.heap.size := (by have := hb1.size; (try simp at this); omega))); (try (have hz1_1 : w.heap.size + 1 < w1.heap.size := (by have := hb1.size; (try simp at this); omega))))) | (go_at_call 76; (fail_if_success (have := w1)); ((with_reducible refine (RN.out _ _ (by repeat (first | (with_reducible exact Below.refl _ _) | (with_reducible refine below_al ?_ _) | (with_reducible refine below_drewN ?_ _) | (with_reducible refine Below.drew ?_) | (with_reducible refine below_via (by assumption) ?_) | (with_reducible refine below_sc ?_ ?_ _; · (first | (simp; done) | (simp; omega) | omega)))) (by simp [go_sem, *])).mono ?_); rintro e w1 ⟨rfl, hb1⟩; (try (replace hb1 := below_undrew hb1)); (try (replace hb1 := below_undrewN hb1)); obtain ⟨hc1, hf1⟩ := bcell hb1; (try (have hz0_1 : w.heap.size < w1.heap.size := (by have := hb1.size; (try simp at this); omega))); (try (have hz1_1 : w.heap.size + 1 < w1.heap.size := (by have := hb1.size; (try simp at this); omega))))) | (go_at_call 13; (fail_if_success (have := w2)); ((with_reducible refine (ES.out _ (by repeat (first | (with_reducible exact Below.refl _ _) | (with_reducible refine below_al ?_ _) | (with_reducible refine below_drewN ?_ _) | (with_reducible refine Below.drew ?_) | (with_reducible refine below_via (by assumption) ?_) | (with_reducible refine below_sc ?_ ?_ _; · (first | (simp; done) | (simp; omega) | omega))))).mono ?_); rintro e w2 ⟨rfl, hb2⟩; (try (replace hb2 := below_undrew hb2)); (try (replace hb2 := below_undrewN hb2)); obtain ⟨hc2, hf2⟩ := bcell hb2; (try (have hz0_2 : w.heap.size < w2.heap.size := (by have := hb2.size; (try simp at this); omega))); (try (have hz1_2 : w.heap.size + 1 < w2.heap.size := (by have := hb2.size; (try simp at this); omega))); (try (have hz_1_2 : w1.heap.size < w2.heap.size := (by have := hb2.size; (try simp at this); omega))))) | (go_at_call 76; (fail_if_success (have := w2)); ((with_reducible refine (RN.out _ _ (by repeat (first | (with_reducible exact Below.refl _ _) | (with_reducible refine below_al ?_ _) | (with_reducible refine below_drewN ?_ _) | (with_reducible refine Below.drew ?_) | (with_reducible refine below_via (by assumption) ?_) | (with_reducible refine below_sc ?_ ?_ _; · (first | (simp; done) | (simp; omega) | omega)))) (by simp [go_sem, *])).mono ?_); rintro e w2 ⟨rfl, hb2⟩; (try (replace hb2 := below_undrew hb2)); (try (replace hb2 := below_undrewN hb2)); obtain ⟨hc2, hf2⟩ := bcell hb2; (try (have hz0_2 : w.heap.size < w2.heap.size := (by have := hb2.size; (try simp at this); omega))); (try (have hz1_2 : w.heap.size + 1 < w2.heap.size := (by have := hb2.size; (try simp at this); omega))); (try (have hz_1_2 : w1.heap.size < w2.heap.size := (by have := hb2.size; (try simp at this); omega))))))
    all_goals exact bodyPost_ret (v := .agg #[.int .i64 x0, .bool x1, .bool x2, .bool x3]) (by simp [results, Tryz.results44, go_sem, *]) rfl ⟨rfl, (by repeat (first | (with_reducible exact Below.refl _ _) | (with_reducible refine below_al ?_ _) | (with_reducible refine below_drewN ?_ _) | (with_reducible refine Below.drew ?_) | (with_reducible refine below_via (by assumption) ?_) | (with_reducible refine below_sc ?_ ?_ _; · (first | (simp; done) | (simp; omega) | omega))))⟩
set_option maxRecDepth 100000 in
set_option maxHeartbeats 8000000 in
theorem type_c (kf : Kfn) (A : Option Addr) (c : Nat) (e : List S41) (A' : Option Addr) (c' : Nat) (cols : List S57) (w : World) (hC : Kd.C k41 w A e.length e) (hc : e.length ≤ c) (hC' : Kd.C k57 w A' cols.length cols)
    (hd : ∀ d ∈ e, I64 d.f2.f1) :
    Calls Tryz.prog 15 #[.slice A e.length c, .slice A' cols.length c'] w fun en w' => en = .returned (.tuple #[.int .i64 (typeE e cols).1, .bool (typeE e cols).2.1, .bool (typeE e cols).2.2]) ∧ Below w.heap.size w w' := by
  have ES := hidF (fun W (hb : Below w.heap.size w W) => typed_c kf A c e A' c' cols W (Kd.C_below hC hb) hc (Kd.C_below hC' hb) hd)
  unfold typeE
  generalize typedE e cols = x at *
  obtain ⟨x0, x1, x2, x3⟩ := x
  simp only at ES ⊢
  clear hC hC' hd hc
  cases x2
  · simp only [Bool.false_eq_true, if_false]
    go_enter Tryz.func15, Tryz.ntmps15
    go_wp2_with (first | (go_at_call 44; (fail_if_success (have := w1)); ((with_reducible refine (ES.out _ (by repeat (first | (with_reducible exact Below.refl _ _) | (with_reducible refine below_al ?_ _) | (with_reducible refine below_drewN ?_ _) | (with_reducible refine Below.drew ?_) | (with_reducible refine below_via (by assumption) ?_) | (with_reducible refine below_sc ?_ ?_ _; · (first | (simp; done) | (simp; omega) | omega))))).mono ?_); rintro e w1 ⟨rfl, hb1⟩; (try (replace hb1 := below_undrew hb1)); (try (replace hb1 := below_undrewN hb1)); obtain ⟨hc1, hf1⟩ := bcell hb1; (try (have hz0_1 : w.heap.size < w1.heap.size := (by have := hb1.size; (try simp at this); omega))))))
    go_region
    all_goals
      go_wp2
      exact bodyPost_ret (v := .tuple #[.int .i64 x0, .bool x1, .bool true]) (by simp [results, Tryz.results15, go_sem, *]) rfl ⟨rfl, (by repeat (first | (with_reducible exact Below.refl _ _) | (with_reducible refine below_al ?_ _) | (with_reducible refine below_drewN ?_ _) | (with_reducible refine Below.drew ?_) | (with_reducible refine below_via (by assumption) ?_) | (with_reducible refine below_sc ?_ ?_ _; · (first | (simp; done) | (simp; omega) | omega))))⟩
  · simp only [if_true]
    go_enter Tryz.func15, Tryz.ntmps15
    go_wp2_with (first | (go_at_call 44; (fail_if_success (have := w1)); ((with_reducible refine (ES.out _ (by repeat (first | (with_reducible exact Below.refl _ _) | (with_reducible refine below_al ?_ _) | (with_reducible refine below_drewN ?_ _) | (with_reducible refine Below.drew ?_) | (with_reducible refine below_via (by assumption) ?_) | (with_reducible refine below_sc ?_ ?_ _; · (first | (simp; done) | (simp; omega) | omega))))).mono ?_); rintro e w1 ⟨rfl, hb1⟩; (try (replace hb1 := below_undrew hb1)); (try (replace hb1 := below_undrewN hb1)); obtain ⟨hc1, hf1⟩ := bcell hb1; (try (have hz0_1 : w.heap.size < w1.heap.size := (by have := hb1.size; (try simp at this); omega))))))
    exact bodyPost_ret (v := .tuple #[.int .i64 0, .bool false, .bool false]) (by simp [results, Tryz.results15, go_sem, *]) rfl ⟨rfl, (by repeat (first | (with_reducible exact Below.refl _ _) | (with_reducible refine below_al ?_ _) | (with_reducible refine below_drewN ?_ _) | (with_reducible refine Below.drew ?_) | (with_reducible refine below_via (by assumption) ?_) | (with_reducible refine below_sc ?_ ?_ _; · (first | (simp; done) | (simp; omega) | omega))))⟩
set_option maxRecDepth 100000 in
set_option maxHeartbeats 8000000 in
theorem safe_c (kf : Kfn) (A : Option Addr) (c : Nat) (e : List S41) (A' : Option Addr) (c' : Nat) (cols : List S57) (w : World) (hC : Kd.C k41 w A e.length e) (hc : e.length ≤ c) (hC' : Kd.C k57 w A' cols.length cols)
    (hd : ∀ d ∈ e, I64 d.f2.f1) :
    Calls Tryz.prog 17 #[.slice A e.length c, .slice A' cols.length c'] w fun en w' => en = .returned (.bool (safeE e cols)) ∧ Below w.heap.size w w' := by
  have ES := hidF (fun W (hb : Below w.heap.size w W) => typed_c kf A c e A' c' cols W (Kd.C_below hC hb) hc (Kd.C_below hC' hb) hd)
  unfold safeE
  generalize typedE e cols = x at *
  obtain ⟨x0, x1, x2, x3⟩ := x
  simp only at ES ⊢
  clear hC hC' hd hc
  cases x2 <;> cases x3
  all_goals
    go_enter Tryz.func17, Tryz.ntmps17
    go_wp2_with (first | (go_at_call 44; (fail_if_success (have := w1)); ((with_reducible refine (ES.out _ (by repeat (first | (with_reducible exact Below.refl _ _) | (with_reducible refine below_al ?_ _) | (with_reducible refine below_drewN ?_ _) | (with_reducible refine Below.drew ?_) | (with_reducible refine below_via (by assumption) ?_) | (with_reducible refine below_sc ?_ ?_ _; · (first | (simp; done) | (simp; omega) | omega))))).mono ?_); rintro e w1 ⟨rfl, hb1⟩; (try (replace hb1 := below_undrew hb1)); (try (replace hb1 := below_undrewN hb1)); obtain ⟨hc1, hf1⟩ := bcell hb1; (try (have hz0_1 : w.heap.size < w1.heap.size := (by have := hb1.size; (try simp at this); omega))))))
    all_goals exact bodyPost_ret (v := .bool _) (by simp [results, Tryz.results17, go_sem, *] <;> rfl) rfl ⟨rfl, (by repeat (first | (with_reducible exact Below.refl _ _) | (with_reducible refine below_al ?_ _) | (with_reducible refine below_drewN ?_ _) | (with_reducible refine Below.drew ?_) | (with_reducible refine below_via (by assumption) ?_) | (with_reducible refine below_sc ?_ ?_ _; · (first | (simp; done) | (simp; omega) | omega))))⟩
end Go.Proofs.YtakcjiinchghaaaGreatDoor
end
section
namespace Go.Proofs.YtakcjiinchghaaaGreatDoor
set_option linter.unusedVariables false
set_option linter.unusedSimpArgs false
open Go.RowKit Go.Proofs.YtakcjiinchghaaaGreatDoorW.PrintWords Go.Proofs.YtakcjiinchghaaaGreatDoorW.PrintLast PRW
theorem kfn : Kfn where
  one := fun W d a h => by
    rcases (show d.f0 = 3 ∨ d.f0 = 4 ∨ d.f0 = 5 ∨ d.f0 = 6 by omega) with q | q | q | q
    · exact one3_c d a W q
    · exact one4_c d a W q
    · exact one5_c d a W q
    · exact one6_c d a W q
  two := fun W d a b h => twoK_c d a b W h
end Go.Proofs.YtakcjiinchghaaaGreatDoor
end
section
namespace Go.Proofs.YtakcjiinchghaaaGreatDoor
set_option linter.unusedVariables false
set_option linter.unusedSimpArgs false
open Go.RowKit Go.Proofs.YtakcjiinchghaaaGreatDoorW.PrintWords Go.Proofs.YtakcjiinchghaaaGreatDoorW.PrintLast PRW
theorem infoDd : (Tryz.prog.info? 41).map (fun i => (i.zero, i.size, i.bytes)) = some (some (.agg #[(.int .i64 0), (.int .i64 0), (.int .i64 0), (.int .i64 0), (.int .u64 0), (.string ⟨#[]⟩)]), 6, 56) := by kernel_rfl
theorem C_empty {α : Type} {d : Kd α} {w : World} {n : Nat} {xs : List α} (h : d.C w none n xs) : xs = [] ∧ n = 0 := by
  obtain ⟨h1, h2, h3⟩ := h
  rcases Nat.eq_zero_or_pos n with h0 | h0
  · subst h0; exact ⟨List.eq_nil_of_length_eq_zero h1, rfl⟩
  · obtain ⟨ad, e, _⟩ := h3 h0; cases e
set_option maxRecDepth 100000 in
set_option maxHeartbeats 4000000 in
theorem cloneDo_c (A0 : Option Addr) (c0 : Nat) (l : List S41) (w : World) (hr : Kd.C k41 w A0 l.length l) (hl : l.length ≤ 2513169434843) :
    Calls Tryz.prog 46 #[.slice A0 l.length c0] w fun e w' => ∃ v0, e = .returned v0 ∧ Kd.R k41 41 w' w.heap.size (fun _ => True) v0 l ∧ Below w.heap.size w w' := by
  have q33 : ∀ (w : World) (a : Option Addr) (n c n' c' : Nat), (binOp .eql 23 (.slice a n c) (.slice none n' c')).run Tryz.prog w = .ok (.bool a.isNone) w := fun w a n c n' c' => Lib.run_eql_slice_nil w _ _ a n c n' c' Tryz.underlying23
  have HR := hidF hr
  clear hr
  cases A0 with
  | none =>
    obtain ⟨rfl, h0⟩ := C_empty HR.out
    go_enter Tryz.func46, Tryz.ntmps46
    go_wp2
    go_ret
    exact ⟨_, rfl, Kd.R_nil _ _ _ _ _, Below.refl _ _⟩
  | some ad =>
    have HB := Aside0.mk (Below.refl w.heap.size w)
    go_enter Tryz.func46, Tryz.ntmps46
    go_wp2_with (first
      | ((with_reducible refine gate_dst (N := 5) rfl ?_); refine Kd.R_lit k41 _ 41 ?hg (N := 5) ?hd (xs := ([] : List S41)) (inner := []) (ok := fun _ => True) (okp := fun _ => True) ?hr ?hp (fun _ hk => hk) trivial (Below.refl _ _) (Nat.le_refl _) (by simp) ?_; (case hd => rfl); (case hg => rfl); (case hr => first | (go_simp; done) | (go_simp; rfl)); (case hp => exact Reps.none _ _); intro v1 w1 ho1 hb1 hg1 hn1; clear hg1 hn1; have HO1 := Aside0.mk ho1; have HB1 := Aside0.mk hb1; clear ho1 hb1)
      | ((with_reducible refine gate_dst (N := 7) rfl ?_); refine Kd.R_append_rows k41 (w0 := w) w.heap.size rfl (.tmp 5) (.tmp 6) 23 41 (.agg #[(.int .i64 0), (.int .i64 0), (.int .i64 0), (.int .i64 0), (.int .u64 0), (.string ⟨#[]⟩)]) 56 rfl Tryz.underlying23 infoDd rfl (by decide) (by omega) v1 [] l _ _ _ (fun _ => True) (fun _ => False) rfl rfl ?aO ?aR (fun _ _ h => h) (fun _ h => h.elim) ?aF ?aB ?aS ?aL ?_; (case aO => exact HO1.out); (case aR => exact Kd.C_below HR.out HB1.out); (case aF => exact fun _ _ => trivial); (case aB => exact HB1.out); (case aS => exact HB1.out.size); (case aL => simp; omega); intro v2 w2 ho2 hb2 hg2 hn2; clear hg2 hn2; have HO2 := Aside0.mk ho2; have HB2 := Aside0.mk hb2; clear ho2 hb2))
    go_ret
    exact ⟨_, rfl, HO2.out, HB2.out⟩
end Go.Proofs.YtakcjiinchghaaaGreatDoor
end
section
namespace Go.Proofs.YtakcjiinchghaaaGreatDoor
set_option linter.unusedVariables false
set_option linter.unusedSimpArgs false
open Go.RowKit Go.Proofs.YtakcjiinchghaaaGreatDoorW.PrintWords Go.Proofs.YtakcjiinchghaaaGreatDoorW.PrintLast PRW
/-- every column that is named has a new place -/
def okTo (e : List S41) (tos : List Int) : Bool := e.all fun d => decide (d.f0 ≠ 2) || (decide (0 ≤ d.f1) && decide (d.f1 < (tos.length : Int)))
def moveE (e : List S41) (tos : List Int) : List S41 := if okTo e tos then e.map (mvD tos) else []
def moveF (e : List S41) (tos : List Int) : Int := if okTo e tos then 0 else 1
theorem okTo_false {e : List S41} {tos : List Int} {i : Nat} {d : S41} (hd : e[i]? = some d) (h : ¬ (d.f0 ≠ 2 ∨ (0 ≤ d.f1 ∧ d.f1 < (tos.length : Int)))) : okTo e tos = false := by
  unfold okTo
  rw [List.all_eq_false]
  exact ⟨d, List.mem_of_getElem? hd, by simp only [Bool.or_eq_true, Bool.and_eq_true, decide_eq_true_eq]; exact h⟩
theorem okTo_take {e : List S41} {tos : List Int} {i : Nat} {d : S41} (hd : e[i]? = some d) (h0 : okTo (e.take i) tos = true) (h : d.f0 ≠ 2 ∨ (0 ≤ d.f1 ∧ d.f1 < (tos.length : Int))) : okTo (e.take (i + 1)) tos = true := by
  have hi : i < e.length := (List.getElem?_eq_some_iff.1 hd).1
  have he : e[i] = d := (List.getElem?_eq_some_iff.1 hd).2
  unfold okTo at *
  rw [List.take_succ_eq_append_getElem hi, List.all_append, h0, he]
  simp only [List.all_cons, List.all_nil, Bool.and_true, Bool.true_and, Bool.or_eq_true, Bool.and_eq_true, decide_eq_true_eq]
  exact h
/-- the steps of which so many have moved -/
def mvTo (e : List S41) (tos : List Int) (i : Nat) : List S41 := (e.take i).map (mvD tos) ++ e.drop i
theorem mvTo_len (e : List S41) (tos : List Int) (i : Nat) (hi : i ≤ e.length) : (mvTo e tos i).length = e.length := by unfold mvTo; simp; omega
theorem mvTo_set {e : List S41} {tos : List Int} {i : Nat} {d : S41} (hd : e[i]? = some d) : (mvTo e tos i).set i (mvD tos d) = mvTo e tos (i + 1) := by
  have hi : i < e.length := (List.getElem?_eq_some_iff.1 hd).1
  have he : e[i] = d := (List.getElem?_eq_some_iff.1 hd).2
  unfold mvTo
  rw [List.take_succ_eq_append_getElem hi, List.map_append, he, List.drop_eq_getElem_cons hi, List.set_append_right _ _ (by simp; omega)]
  have : i - ((e.take i).map (mvD tos)).length = 0 := by simp; omega
  rw [this, List.set_cons_zero]
  simp
theorem mvTo_same {e : List S41} {tos : List Int} {i : Nat} {d : S41} (hd : e[i]? = some d) (h : d.f0 ≠ 2) : mvTo e tos (i + 1) = mvTo e tos i := by
  have hi : i < e.length := (List.getElem?_eq_some_iff.1 hd).1
  have he : e[i] = d := (List.getElem?_eq_some_iff.1 hd).2
  unfold mvTo
  rw [List.take_succ_eq_append_getElem hi, List.map_append, he, List.drop_eq_getElem_cons hi, he]
  simp [mvD_not tos d h]
theorem mvTo_at {e : List S41} {tos : List Int} {i : Nat} {d : S41} (hd : e[i]? = some d) (z : S41) : (mvTo e tos i).getD i z = d := by
  have hi : i < e.length := (List.getElem?_eq_some_iff.1 hd).1
  have he : e[i] = d := (List.getElem?_eq_some_iff.1 hd).2
  unfold mvTo
  rw [List.getD_eq_getElem?_getD, List.getElem?_append_right (by simp; omega)]
  have : i - ((e.take i).map (mvD tos)).length = 0 := by simp; omega
  rw [this, List.drop_eq_getElem_cons hi, he]; rfl
theorem mvTo_full (e : List S41) (tos : List Int) (i : Nat) (hi : i = e.length) : mvTo e tos i = e.map (mvD tos) := by
  unfold mvTo; subst hi; simp
/-- the field of one step is written in a row of the call's own -/
theorem put_step {W : World} {base g n cap : Nat} {xs : List S41} {ok : Nat → Prop} (h : Kd.R k41 41 W base ok (.slice (some ⟨g, 0, none⟩) n cap) xs) (i : Nat) (hi : i < n) (d : S41) (hd : xs.getD i z41 = d) (x : Int) :
    W.cell? ⟨g, i * 6 + 1, none⟩ = some (.int .i64 d.f1) ∧ W.frozen? ⟨g, i * 6 + 1, none⟩ = false ∧ Kd.R k41 41 (W.setCell ⟨g, i * 6 + 1, none⟩ (.int .i64 x)) base ok (.slice (some ⟨g, 0, none⟩) n cap) (xs.set i ⟨d.f0, x, d.f2⟩) := by
  obtain ⟨c, hcl, hM, hcc, hcf⟩ := Kd.R_elem h z41 (i : Int) (by omega) (by omega)
  simp only [Int.toNat_natCast] at hM hcc hcf
  rw [hd] at hM
  obtain rfl := k41_openM hM
  refine ⟨hcc 1 _ rfl, hcf 1, ?_⟩
  have := (Kd.R_seg h (i : Int) (by omega) (by omega) (c := _) (seg := [.int .i64 x]) (j := 1) hcl hcc (by show 1 + 1 ≤ 6; omega) (x' := ⟨d.f0, x, d.f2⟩) (okp := fun k => ok k ∧ k ≠ g) (k41_mkM _ _ _ _) (fun _ h => h)).1
  exact this
def natOfV : Value → Nat
  | .int _ n => n.toNat
  | _ => 0
set_option maxRecDepth 100000 in
set_option maxHeartbeats 8000000 in
theorem move_c (A : Option Addr) (c : Nat) (e : List S41) (A' : Option Addr) (c' : Nat) (tos : List Int) (w : World) (hC : Kd.C k41 w A e.length e) (hT : Kd.C (Kd.int .i64) w A' tos.length tos) (hl : e.length ≤ 2513169434843) :
    Calls Tryz.prog 19 #[.slice A e.length c, .slice A' tos.length c'] w fun en w' => ∃ v, en = .returned (.tuple #[v, .int .i64 (moveF e tos)]) ∧ Kd.R k41 41 w' w.heap.size (fun _ => True) v (moveE e tos) ∧ Below w.heap.size w w' := by
  have HC := hidF hC
  have HT := hidF hT
  have HL := hidF hl
  clear hC hT
  go_enter Tryz.func19, Tryz.ntmps19
  go_wp2_with (go_at_call 46; ((with_reducible refine (cloneDo_c A c e _ HC.out HL.out).mono ?_); rintro en w1 ⟨v1, rfl, h1, hb1⟩; obtain ⟨A1, c1, rfl⟩ := Kd.R_slice h1; have HR1 := hidF h1; have HB1 := hidF hb1; clear h1 hb1))
  go_loopw [13] (fun v wr => ∃ i : Nat, v = .int .i64 (i : Int) ∧ i ≤ e.length ∧ Hid (okTo (e.take i) tos = true) ∧ Hid (Below w.heap.size w wr) ∧ Hid (Kd.R k41 41 wr w.heap.size (fun _ => True) (.slice A1 e.length c1) (mvTo e tos i))) (fun v _ => e.length - natOfV v)
  case atStart => exact ⟨0, rfl, by omega, hidF rfl, HB1, hidF (by simpa [mvTo] using HR1.out)⟩
  case round =>
    clear HR1 HB1
    obtain ⟨i, rfl, hil, HK, HB, HR⟩ := hrel
    by_cases hlt : i < e.length
    · obtain ⟨d, hd⟩ : ∃ d, e[i]? = some d := ⟨_, List.getElem?_eq_getElem hlt⟩
      have HD := hidF hd
      have rdd : rd_T41 e (i : Int) = d := by
        unfold rd_T41
        simp only [Int.toNat_natCast, List.getD_eq_getElem?_getD]
        rw [hd]; rfl
      obtain ⟨ad, ea, k0, k1, k2, k3, k4, k5⟩ := at_T41 (Kd.C_below HC.out HB.out) (i : Int) (by omega) (by omega)
      cases ea
      rw [rdd] at k0 k1 k2 k3 k4 k5
      simp only [Int.toNat_natCast] at k0 k1 k2 k3 k4 k5
      have hii : (i : Int) < (e.length : Int) := by omega
      have hwle := HB.out.size
      by_cases h2 : d.f0 = 2
      · by_cases hin : 0 ≤ d.f1 ∧ d.f1 < (tos.length : Int)
        · obtain ⟨tad, rfl, t0⟩ := Kd.at_int (Kd.C_below HT.out HB.out) d.f1 hin.1 hin.2
          obtain ⟨g, cap, hv, hg, hgl, _⟩ := Kd.R_form HR.out (by rw [mvTo_len e tos i hil]; omega)
          rw [mvTo_len e tos i hil] at hv
          injection hv with hv1 hv2 hv3
          subst hv1; subst hv3
          have tl := World.block_lt_of_cell? wr _ t0
          have n1 : ¬ (tad.add d.f1.toNat).block = wr.heap.size := by omega
          have n1' : ¬ wr.heap.size = (tad.add d.f1.toNat).block := by omega
          have n2 : ¬ g = wr.heap.size := by omega
          have n2' : ¬ wr.heap.size = g := by omega
          obtain ⟨p0, p1, p2⟩ := put_step HR.out i hlt d (mvTo_at hd _) (rd tos d.f1)
          have HP := hidF p2
          have HGG := hidF hg
          clear p2
          have hmv : mvD tos d = ⟨d.f0, rd tos d.f1, d.f2⟩ := if_pos h2
          have HS := hidF ((mvTo_set (tos := tos) hd).symm)
          rw [hmv] at HS
          have HK2 := hidF (okTo_take hd HK.out (.inr hin))
          have e2 : (d.f0 != 2) = false := by rw [h2]; rfl
          have e3 : decide (d.f1 < 0) = false := decide_eq_false (by omega)
          have e4 : decide ((tos.length : Int) ≤ d.f1) = false := decide_eq_false (by omega)
          obtain ⟨q0, q1⟩ := hin
          clear hd rdd h2 hmv
          go_wp2_with fail
          go_roundw
          case rel => exact ⟨i + 1, by go_num, by omega, HK2, hidF ((HB.out.setCell (p := ⟨g, i * 6 + 1, none⟩) HGG.out _).alloc (by simpa using HB.out.size) _), hidF (by rw [HS.out]; exact Kd.R_alloc HP.out _)⟩
          case measure => simp [natOfV]; omega
        · have HF := hidF (okTo_false (tos := tos) hd (fun h => h.elim (fun h => h h2) hin))
          have e2 : (d.f0 != 2) = false := by rw [h2]; rfl
          have hret : moveE e tos = [] := by unfold moveE; rw [HF.out]; rfl
          have hret2 : moveF e tos = 1 := by unfold moveF; rw [HF.out]; rfl
          have HQ := hidF hret
          have HQ2 := hidF hret2
          by_cases h3 : d.f1 < 0
          · have e3 : decide (d.f1 < 0) = true := decide_eq_true h3
            clear hd rdd h2 h3 hin hret hret2
            go_wp2_with fail
            exact bodyPost_ret (v := .tuple #[.slice none 0 0, .int .i64 1]) (by simp [results, Tryz.results19, go_sem, *]) rfl ⟨_, by rw [HQ2.out], by rw [HQ.out]; exact Kd.R_nil _ _ _ _ _, HB.out.alloc HB.out.size _⟩
          · have e3 : decide (d.f1 < 0) = false := decide_eq_false h3
            have e4 : decide ((tos.length : Int) ≤ d.f1) = true := decide_eq_true (by omega)
            clear hd rdd h2 h3 hin hret hret2
            go_wp2_with fail
            exact bodyPost_ret (v := .tuple #[.slice none 0 0, .int .i64 1]) (by simp [results, Tryz.results19, go_sem, *]) rfl ⟨_, by rw [HQ2.out], by rw [HQ.out]; exact Kd.R_nil _ _ _ _ _, HB.out.alloc HB.out.size _⟩
      · have HK2 := hidF (okTo_take (tos := tos) hd HK.out (.inl h2))
        have HS := hidF (mvTo_same (tos := tos) hd h2)
        have e2 : (d.f0 != 2) = true := bne_iff_ne.2 h2
        clear hd rdd h2
        go_wp2_with fail
        go_roundw
        case rel => exact ⟨i + 1, by go_num, by omega, HK2, hidF (HB.out.alloc HB.out.size _), hidF (by rw [HS.out]; exact Kd.R_alloc HR.out _)⟩
        case measure => simp [natOfV]; omega
    · have hie : i = e.length := by omega
      have hok : okTo e tos = true := by have := HK.out; rwa [hie, List.take_of_length_le (Nat.le_refl _)] at this
      have hret : moveE e tos = mvTo e tos i := by unfold moveE; rw [hok, mvTo_full e tos i hie]; rfl
      have hret2 : moveF e tos = 0 := by unfold moveF; rw [hok]; rfl
      have HQ := hidF hret
      have HQ2 := hidF hret2
      have hii : ¬ (i : Int) < (e.length : Int) := by omega
      clear hie hok hret hret2 hlt hil
      go_wp2_with fail
      exact bodyPost_ret (v := .tuple #[.slice A1 e.length c1, .int .i64 0]) (by simp [results, Tryz.results19, go_sem, *]) rfl ⟨_, by rw [HQ2.out], by rw [HQ.out]; exact HR.out, HB.out⟩
end Go.Proofs.YtakcjiinchghaaaGreatDoor
end
section
namespace Go.Proofs.YtakcjiinchghaaaGreatDoor
set_option linter.unusedVariables false
set_option linter.unusedSimpArgs false
open Go.RowKit Go.Proofs.YtakcjiinchghaaaGreatDoorW.PrintWords Go.Proofs.YtakcjiinchghaaaGreatDoorW.PrintLast PRW
/-- what stands behind a step's code -/
def tailS (d : S41) : ByteArray := if d.f0 = 1 then ⟨(showL d.f2.f0 d.f2.f1 d.f2.f2 d.f2.f3).toArray⟩ else if d.f0 = 2 ∨ d.f0 = 6 then ⟨(Lib.itoa d.f1).toArray⟩ else ⟨#[]⟩
def codeS (d : S41) : ByteArray := ⟨(Lib.itoa d.f0).toArray⟩
/-- a step as a text -/
def stepS (d : S41) : ByteArray := if d.f0 = 1 ∨ d.f0 = 2 ∨ d.f0 = 6 then codeS d ++ ⟨#[58]⟩ ++ tailS d else codeS d ++ ⟨#[58]⟩
def partsE (e : List S41) : List ByteArray := e.map stepS
theorem parts_len (e : List S41) : (partsE e).length = e.length := by unfold partsE; rw [List.length_map]
theorem parts_take {e : List S41} {i : Nat} {d : S41} (hd : e[i]? = some d) : partsE (e.take (i + 1)) = partsE (e.take i) ++ [stepS d] := by
  have hi : i < e.length := (List.getElem?_eq_some_iff.1 hd).1
  have he : e[i] = d := (List.getElem?_eq_some_iff.1 hd).2
  unfold partsE
  rw [List.take_succ_eq_append_getElem hi, List.map_append, he]; rfl
theorem stepS_size (d : S41) (h : d.f0 = 1 ∨ d.f0 = 2 ∨ d.f0 = 6) : (stepS d).size = (codeS d).size + 1 + (tailS d).size := by
  unfold stepS
  rw [if_pos h, ByteArray.size_append, ByteArray.size_append]; rfl
theorem stepS_size0 (d : S41) (h : ¬ (d.f0 = 1 ∨ d.f0 = 2 ∨ d.f0 = 6)) : (stepS d).size = (codeS d).size + 1 := by
  unfold stepS
  rw [if_neg h, ByteArray.size_append]; rfl
theorem infoSt : (Tryz.prog.info? 9).map (fun i => (i.zero, i.size, i.bytes)) = some (some (.string ⟨#[]⟩), 1, 16) := by kernel_rfl
theorem keepC5 {W w1 : World} {p : Addr} {v : Value} (hb : Below W.heap.size W w1) (h : W.cell? p = some v) : w1.cell? p = some v := (hb.cell (World.block_lt_of_cell? W _ h)).trans h
set_option maxRecDepth 100000 in
set_option maxHeartbeats 8000000 in
theorem eshow_c (A : Option Addr) (c : Nat) (e : List S41) (w : World) (hC : Kd.C k41 w A e.length e) (hT : ETab w) (hd : ∀ d ∈ e, I64 d.f0 ∧ I64 d.f1 ∧ I64 d.f2.f1 ∧ U64 d.f2.f2) (hl : e.length ≤ 1000000)
    (hz : ∀ d ∈ e, (stepS d).size ≤ 1099511627776) (r : ByteArray) (hj : xJoin.f (partsE e) ⟨#[32]⟩ = some r) :
    Calls Tryz.prog 25 #[.slice A e.length c] w fun en w' => en = .returned (.string r) ∧ Below w.heap.size w w' := by
  have HC := hidF hC
  have HTW := hidF hT
  have HD := hidF hd
  have HZ := hidF hz
  have HJ := hidF hj
  have hl1 : (0 : Int) ≤ (e.length : Int) := by omega
  have hl2 : (e.length : Int).toNat ≤ 1000000 := by omega
  clear hC hT hd hz hj
  go_enter Tryz.func25, Tryz.ntmps25
  go_wp2_with (first | ((with_reducible refine gate_dst (N := 9) rfl ?_); refine Kd.R_make0 Kd.string _ 9 rfl (N := 9) rfl 82 _ _ rfl (e.length : Int) rfl rfl Tryz.underlying82 (.string ⟨#[]⟩) 16 infoSt rfl (by decide) (by omega) (⟨#[]⟩ : ByteArray) (ok := fun _ => True) (okp := fun _ => True) rfl (fun _ hk => hk) trivial hl1 (Nat.le_trans (Nat.mul_le_mul_right _ hl2) (by omega)) (Below.refl _ _) (Nat.le_refl _) ?_; intro v0 w0 ho hb0 hg0 hn0; clear hg0 hn0; have HR0 := hidF ho; have HB0 := hidF hb0; clear ho hb0))
  go_loopw [3, 12] (fun v3 v wr => ∃ i : Nat, v = .int .i64 (i : Int) ∧ i ≤ e.length ∧ Hid (Below w.heap.size w wr) ∧ Hid (Kd.R Kd.string 9 wr w.heap.size (fun _ => True) v3 (partsE (e.take i)))) (fun _ v _ => e.length - natOfV v)
  case atStart => exact ⟨0, rfl, by omega, HB0, HR0⟩
  case round =>
    clear HR0 HB0
    obtain ⟨i, rfl, hil, HB, HR⟩ := hrel
    by_cases hlt : i < e.length
    · obtain ⟨d, hd⟩ : ∃ d, e[i]? = some d := ⟨_, List.getElem?_eq_getElem hlt⟩
      have hdm := HD.out d (List.mem_of_getElem? hd)
      have hzm := HZ.out d (List.mem_of_getElem? hd)
      have rdd : rd_T41 e (i : Int) = d := by
        unfold rd_T41
        simp only [Int.toNat_natCast, List.getD_eq_getElem?_getD]
        rw [hd]; rfl
      obtain ⟨ad, ea, k0, k1, k2, k3, k4, k5⟩ := at_T41 (Kd.C_below HC.out HB.out) (i : Int) (by omega) (by omega)
      cases ea
      rw [rdd] at k0 k1 k2 k3 k4 k5
      simp only [Int.toNat_natCast] at k0 k1 k2 k3 k4 k5
      have hii : (i : Int) < (e.length : Int) := by omega
      have hwle := HB.out.size
      have HP := hidF (parts_take hd)
      have hpl : (partsE (e.take i)).length ≤ 1000000 := by rw [parts_len, List.length_take]; omega
      obtain ⟨A1, c1, rfl⟩ := Kd.R_slice HR.out
      obtain ⟨W1, hW1⟩ : ∃ W1, wr.alloc (.cells #[.int .i64 d.f0, .int .i64 d.f1, .int .i64 d.f2.f0, .int .i64 d.f2.f1, .int .u64 d.f2.f2, .string d.f2.f3] 41) = W1 := ⟨_, rfl⟩
      obtain ⟨D, hD⟩ : ∃ D, wr.heap.size = D := ⟨_, rfl⟩
      have HBa := hidF (show Below w.heap.size w W1 by rw [← hW1]; exact HB.out.alloc HB.out.size _)
      have HRa := hidF (show Kd.R Kd.string 9 W1 w.heap.size (fun _ => True) _ (partsE (e.take i)) by rw [← hW1]; exact Kd.R_alloc HR.out _)
      have m0 : W1.cell? ⟨D, 0, none⟩ = some (.int .i64 d.f0) := by rw [← hW1, ← hD]; exact (blk_cell (heap_alloc_new _ _) 0).trans rfl
      have m1 : W1.cell? ⟨D, 1, none⟩ = some (.int .i64 d.f1) := by rw [← hW1, ← hD]; exact (blk_cell (heap_alloc_new _ _) 1).trans rfl
      have m2 : W1.cell? ⟨D, 2, none⟩ = some (.int .i64 d.f2.f0) := by rw [← hW1, ← hD]; exact (blk_cell (heap_alloc_new _ _) 2).trans rfl
      have m3 : W1.cell? ⟨D, 3, none⟩ = some (.int .i64 d.f2.f1) := by rw [← hW1, ← hD]; exact (blk_cell (heap_alloc_new _ _) 3).trans rfl
      have m4 : W1.cell? ⟨D, 4, none⟩ = some (.int .u64 d.f2.f2) := by rw [← hW1, ← hD]; exact (blk_cell (heap_alloc_new _ _) 4).trans rfl
      have m5 : W1.cell? ⟨D, 5, none⟩ = some (.string d.f2.f3) := by rw [← hW1, ← hD]; exact (blk_cell (heap_alloc_new _ _) 5).trans rfl
      have HI0 : Hid (∀ W, ETab W → Calls Tryz.prog 50 #[.int .i64 d.f0] W fun e w' => e = .returned (.string (codeS d)) ∧ Below W.heap.size W w') := hidF fun W ht => itoa_c d.f0 W hdm.1 ht.pow
      have HT1 := hidF (HTW.out.below HBa.out)
      by_cases h1 : d.f0 = 1 ∨ d.f0 = 2 ∨ d.f0 = 6
      · have hz1 := stepS_size d h1
        have z1 : (9223372036854775807 < (codeS d).size + 1) = False := eq_false (by omega)
        have z2 : (9223372036854775807 < (codeS d).size + 1 + (tailS d).size) = False := eq_false (by omega)
        have HSt : Hid (stepS d = codeS d ++ ⟨#[58]⟩ ++ tailS d) := hidF (if_pos h1)
        have HX : Hid (∀ W, ETab W → (d.f0 = 1 → Calls Tryz.prog 51 #[.agg #[.int .i64 d.f2.f0, .int .i64 d.f2.f1, .int .u64 d.f2.f2, .string d.f2.f3]] W fun e w' => e = .returned (.string (tailS d)) ∧ Below W.heap.size W w') ∧ (d.f0 ≠ 1 → Calls Tryz.prog 50 #[.int .i64 d.f1] W fun e w' => e = .returned (.string (tailS d)) ∧ Below W.heap.size W w')) := hidF fun W ht => by
          constructor
          · intro h
            have : tailS d = ⟨(showL d.f2.f0 d.f2.f1 d.f2.f2 d.f2.f3).toArray⟩ := if_pos h
            rw [this]; exact show_c _ _ _ _ W hdm.2.2.1 hdm.2.2.2 ht.pow ht.deB
          · intro h
            have : tailS d = ⟨(Lib.itoa d.f1).toArray⟩ := by unfold tailS; rw [if_neg h, if_pos (by omega)]
            rw [this]; exact itoa_c _ W hdm.2.1 ht.pow
        have key : Hid (∃ q1 q2 q6 : Bool, (d.f0 == 1) = q1 ∧ (d.f0 == 2) = q2 ∧ (d.f0 == 6) = q6 ∧ ((q1 = true ∧ d.f0 = 1) ∨ (q1 = false ∧ q2 = true ∧ d.f0 ≠ 1) ∨ (q1 = false ∧ q2 = false ∧ q6 = true ∧ d.f0 ≠ 1))) := hidF (by
          refine ⟨_, _, _, rfl, rfl, rfl, ?_⟩
          rcases h1 with h | h | h <;> rw [h] <;> simp)
        obtain ⟨q1, q2, q6, e1, e2, e6, hq⟩ := key.out
        clear hd rdd hdm hzm hz1 h1 key
        rcases hq with ⟨rfl, hq⟩ | ⟨rfl, rfl, hq⟩ | ⟨rfl, rfl, rfl, hq⟩
        all_goals
          have HQ := hidF hq
          clear hq
          go_wp2_with (first
            | (go_at_call 50; (fail_if_success (have := w1)); ((with_reducible refine (HI0.out W1 HT1.out).mono ?_); rintro en w1 ⟨rfl, hb1⟩; have n0 := keepC5 hb1 m0; have n1 := keepC5 hb1 m1; have n2 := keepC5 hb1 m2; have n3 := keepC5 hb1 m3; have n4 := keepC5 hb1 m4; have n5 := keepC5 hb1 m5; have HB1 := hidF (HBa.out.trans (hb1.mono HBa.out.size)); have HR1 := hidF (Kd.R_below HRa.out hb1); have HT2 := hidF (HT1.out.below hb1); clear hb1))
            | (go_at_call 50; ((with_reducible refine (((HX.out w1 HT2.out).2 HQ.out)).mono ?_); rintro en w2 ⟨rfl, hb2⟩; have HB2 := hidF (HB1.out.trans (hb2.mono HB1.out.size)); have HR2 := hidF (Kd.R_below HR1.out hb2); clear hb2))
            | (go_at_call 51; ((with_reducible refine (((HX.out w1 HT2.out).1 HQ.out)).mono ?_); rintro en w2 ⟨rfl, hb2⟩; have HB2 := hidF (HB1.out.trans (hb2.mono HB1.out.size)); have HR2 := hidF (Kd.R_below HR1.out hb2); clear hb2))
            | ((with_reducible refine gate_builtin (b := .append) (xs := #[.tmp 37, .tmp 39]) rfl ?_); at_builtin; refine Kd.R_append Kd.string (w0 := w) w.heap.size ?h1 (.tmp 37) (.tmp 39) 82 9 (.string ⟨#[]⟩) 16 ?h2 ?h3 ?h4 ?h5 ?h6 ?h7 (.slice A1 (partsE (e.take i)).length c1) (partsE (e.take i)) (codeS d ++ ⟨#[58]⟩ ++ tailS d) [.string (codeS d ++ ⟨#[58]⟩ ++ tailS d)] (fun _ => True) (fun _ => False) ?h8 ?h9 ?aP ?hk ?aF ?aO ?aB ?aS ?aL ?_; (case h1 => exact rfl); (case h2 => exact rfl); (case h3 => exact Tryz.underlying82); (case h4 => exact infoSt); (case h5 => exact rfl); (case h6 => decide); (case h7 => omega); (case h8 => exact rfl); (case h9 => exact rfl); (case hk => exact (fun _ hk => hk.elim)); (case aP => exact rfl); (case aF => exact (fun _ _ => trivial)); (case aO => exact HR2.out); (case aB => exact HB2.out); (case aS => exact HB2.out.size); (case aL => omega); intro v1 w3 ho hb hg hat; have HO := hidF ho; have HB3 := hidF hb; clear ho hb hg hat))
          go_roundw
          case rel => exact ⟨i + 1, by go_num, by omega, HB3, hidF (by rw [HP.out, HSt.out]; exact HO.out)⟩
          case measure => simp [natOfV]; omega
      · have hz1 := stepS_size0 d h1
        have z1 : (9223372036854775807 < (codeS d).size + 1) = False := eq_false (by omega)
        have HSt : Hid (stepS d = codeS d ++ ⟨#[58]⟩) := hidF (if_neg h1)
        have e1 : (d.f0 == 1) = false := beq_eq_false_iff_ne.2 (fun h => h1 (.inl h))
        have e2 : (d.f0 == 2) = false := beq_eq_false_iff_ne.2 (fun h => h1 (.inr (.inl h)))
        have e6 : (d.f0 == 6) = false := beq_eq_false_iff_ne.2 (fun h => h1 (.inr (.inr h)))
        clear hd rdd hdm hzm hz1 h1
        go_wp2_with (first
          | (go_at_call 50; (fail_if_success (have := w1)); ((with_reducible refine (HI0.out W1 HT1.out).mono ?_); rintro en w1 ⟨rfl, hb1⟩; have n0 := keepC5 hb1 m0; have n1 := keepC5 hb1 m1; have n2 := keepC5 hb1 m2; have n3 := keepC5 hb1 m3; have n4 := keepC5 hb1 m4; have n5 := keepC5 hb1 m5; have HB1 := hidF (HBa.out.trans (hb1.mono HBa.out.size)); have HR1 := hidF (Kd.R_below HRa.out hb1); clear hb1))
          | ((with_reducible refine gate_builtin (b := .append) (xs := #[.tmp 37, .tmp 39]) rfl ?_); at_builtin; refine Kd.R_append Kd.string (w0 := w) w.heap.size ?h1 (.tmp 37) (.tmp 39) 82 9 (.string ⟨#[]⟩) 16 ?h2 ?h3 ?h4 ?h5 ?h6 ?h7 (.slice A1 (partsE (e.take i)).length c1) (partsE (e.take i)) (codeS d ++ ⟨#[58]⟩) [.string (codeS d ++ ⟨#[58]⟩)] (fun _ => True) (fun _ => False) ?h8 ?h9 ?aP ?hk ?aF ?aO ?aB ?aS ?aL ?_; (case h1 => exact rfl); (case h2 => exact rfl); (case h3 => exact Tryz.underlying82); (case h4 => exact infoSt); (case h5 => exact rfl); (case h6 => decide); (case h7 => omega); (case h8 => exact rfl); (case h9 => exact rfl); (case hk => exact (fun _ hk => hk.elim)); (case aP => exact rfl); (case aF => exact (fun _ _ => trivial)); (case aO => exact HR1.out); (case aB => exact HB1.out); (case aS => exact HB1.out.size); (case aL => omega); intro v1 w3 ho hb hg hat; have HO := hidF ho; have HB3 := hidF hb; clear ho hb hg hat))
        go_roundw
        case rel => exact ⟨i + 1, by go_num, by omega, HB3, hidF (by rw [HP.out, HSt.out]; exact HO.out)⟩
        case measure => simp [natOfV]; omega
    · have hie : i = e.length := by omega
      have HR2 : Hid (Kd.R Kd.string 9 wr w.heap.size (fun _ => True) _ (partsE e)) := hidF (by have := HR.out; rwa [hie, List.take_of_length_le (Nat.le_refl _)] at this)
      obtain ⟨A1, c1, rfl⟩ := Kd.R_slice HR2.out
      obtain ⟨A2, c2, h2, h3, h4⟩ := Kd.R_reads HR2.out
      injection h2 with h5 h6 h7
      subst h5; subst h7
      have HRD := hidF (And.intro h3 h4)
      have hii : ¬ (i : Int) < (e.length : Int) := by omega
      clear hie hlt hil HR h3 h4 h6
      go_wp2_with (go_at_call 52; ((with_reducible refine (xJoin.calls A1 c1 (partsE e) ⟨#[32]⟩ r _ HRD.out.2 HRD.out.1 HJ.out).mono ?_); rintro en w1 ⟨rfl, hb1⟩; have HB1 := hidF (HB.out.trans (hb1.mono HB.out.size)); clear hb1))
      exact bodyPost_ret (v := .string r) (by simp [results, Tryz.results25, go_sem, *]) rfl ⟨rfl, HB1.out⟩
end Go.Proofs.YtakcjiinchghaaaGreatDoor
end
section
namespace Go.Proofs.YtakcjiinchghaaaGreatDoor
set_option linter.unusedVariables false
set_option linter.unusedSimpArgs false
open Go.RowKit Go.Proofs.YtakcjiinchghaaaGreatDoorW.PrintWords Go.Proofs.YtakcjiinchghaaaGreatDoorW.PrintLast PRW Go.Sort
theorem grow_none (w : World) : grow w #[] = w := by simp [grow]
theorem sortI_c {W : World} {base : Nat} {A : Option Addr} {n c : Nat} {xs : List Int} {ok : Nat → Prop} (hR : Kd.R (Kd.int .i64) 3 W base ok (.slice A n c) xs) (hl : xs.length ≤ 2513169434843) :
    Calls Tryz.prog 47 #[.slice A n c] W fun e w' => e = .returned (.tuple #[]) ∧ Kd.R (Kd.int .i64) 3 w' base ok (.slice A n c) (xs.mergeSort fun x y => decide (x ≤ y)) ∧ Below base W w' := by
  obtain ⟨hn, hnc, _⟩ := Kd.R_reads' hR
  subst hn
  have hok := hR.1
  have ho := Kd.own_of_R hR
  rcases ho.2 with ⟨h0, h1⟩ | ⟨g, cap, cur, hv, hg, hb, h1, h2, h3, h4⟩
  · injection h0 with a1 a2 a3
    have : xs = [] := List.eq_nil_of_length_eq_zero a2
    subst this
    refine (Tryz.slices_Sort_int_none A c W).mono ?_
    rintro e w' ⟨rfl, rfl⟩
    exact ⟨rfl, by simpa using hR, Below.refl _ _⟩
  · injection hv with a1 a2 a3
    subst a1; subst a3
    have hlt : g < W.heap.size := (Array.getElem?_eq_some_iff.1 hb).1
    have hx : cur.toList.take xs.length = xs.map (Value.int .i64) := by simpa [encs] using h4
    refine (Tryz.slices_Sort_int g 0 _ xs W (holds_of_blockI hb hx) hlt (by omega)).mono ?_
    rintro e w' ⟨rfl, m, os, rfl⟩
    have hlen : (xs.mergeSort fun x y => decide (x ≤ y)).length = xs.length := List.length_mergeSort _
    refine ⟨rfl, Kd.R_of_own (by rw [hlen]; exact ownsRow_sortedI (ss := xs) hlen hg hb h1 h2 h3) hok, ?_⟩
    exact (Below.refl _ _).grown (grownBy_sortedI _) (by omega) (fun k h => by cases h; exact hg)
theorem compactUp_len (d : Array Int) : ∀ m, (Lib.compactUpTo d m).length ≤ m
  | 0 => by simp [Lib.compactUpTo]
  | m + 1 => by
    rw [Lib.compactUpTo_succ, List.length_append]
    have := compactUp_len d m
    split <;> simp <;> omega
theorem compact_len (xs : List Int) : (Lib.compact xs).length ≤ xs.length := compactUp_len _ _
theorem compactI_c {W : World} {base : Nat} {A : Option Addr} {n c : Nat} {xs : List Int} {ok : Nat → Prop} (hR : Kd.R (Kd.int .i64) 3 W base ok (.slice A n c) xs) (hl : xs.length ≤ 2513169434843) :
    Calls Tryz.prog 48 #[.slice A n c] W fun e w' => ∃ v, e = .returned v ∧ Kd.R (Kd.int .i64) 3 w' base ok v (Lib.compact xs) ∧ Below base W w' := by
  obtain ⟨hn, hnc, _⟩ := Kd.R_reads' hR
  subst hn
  have hok := hR.1
  have ho := Kd.own_of_R hR
  rcases ho.2 with ⟨h0, h1⟩ | ⟨g, cap, cur, hv, hg, hb, h1, h2, h3, h4⟩
  · injection h0 with a1 a2 a3
    have : xs = [] := List.eq_nil_of_length_eq_zero a2
    subst this
    refine (Tryz.slices_Compact_int_empty A c W).mono ?_
    rintro e w' ⟨rfl, rfl⟩
    exact ⟨_, rfl, hR, Below.refl _ _⟩
  · injection hv with a1 a2 a3
    subst a1; subst a3
    have hlt : g < W.heap.size := (Array.getElem?_eq_some_iff.1 hb).1
    have hx : cur.toList.take xs.length = xs.map (Value.int .i64) := by simpa [encs] using h4
    refine (Tryz.slices_Compact_int g 0 _ xs W (holds_of_blockI hb hx) (by omega) hnc).mono ?_
    rintro e w' ⟨rfl, q, rfl⟩
    have hle := compact_len xs
    obtain ⟨ts, hts⟩ : ∃ ts, Lib.compact xs ++ List.replicate (xs.length - (Lib.compact xs).length) 0 = ts := ⟨_, rfl⟩
    have hlen : ts.length = xs.length := by rw [← hts]; simp; omega
    rw [hts]
    have key : Kd.R (Kd.int .i64) 3 (grow (putRow (Value.int .i64) (Sort.ahead W q) g 0 ts.toArray) #[]) base ok (.slice (some ⟨g, 0, none⟩) xs.length c) ts := Kd.R_of_own (by rw [hlen]; exact ownsRow_sortedI (ss := xs) hlen hg hb h1 h2 h3) hok
    rw [grow_none] at key
    have hB := (Below.refl base W).grown (grownBy_sortedI (w := W) (g := g) (n := q) (os := #[]) ts.toArray) (by omega) (fun k h => by cases h; exact hg)
    rw [grow_none] at hB
    refine ⟨_, rfl, ?_, hB⟩
    have := Kd.R_take (m := (Lib.compact xs).length) key (by omega)
    have e9 : ts.take (Lib.compact xs).length = Lib.compact xs := by rw [← hts, List.take_left]
    rwa [e9] at this
end Go.Proofs.YtakcjiinchghaaaGreatDoor
end
section
namespace Go.Proofs.YtakcjiinchghaaaGreatDoor
set_option linter.unusedVariables false
set_option linter.unusedSimpArgs false
open Go.RowKit Go.Proofs.YtakcjiinchghaaaGreatDoorW.PrintWords Go.Proofs.YtakcjiinchghaaaGreatDoorW.PrintLast PRW
/-- the columns that steps name, in their order -/
def namesE (e : List S41) : List Int := (e.filter fun d => decide (d.f0 = 2)).map fun d => d.f1
def colsE (e : List S41) : List Int := Lib.compact ((namesE e).mergeSort fun x y => decide (x ≤ y))
theorem names_len (e : List S41) : (namesE e).length ≤ e.length := by unfold namesE; rw [List.length_map]; exact List.length_filter_le _ _
theorem names_take {e : List S41} {i : Nat} {d : S41} (hd : e[i]? = some d) : namesE (e.take (i + 1)) = namesE (e.take i) ++ (if d.f0 = 2 then [d.f1] else []) := by
  have hi : i < e.length := (List.getElem?_eq_some_iff.1 hd).1
  have he : e[i] = d := (List.getElem?_eq_some_iff.1 hd).2
  unfold namesE
  rw [List.take_succ_eq_append_getElem hi, List.filter_append, List.map_append, he]
  split <;> rename_i h <;> simp [h]
theorem infoI : (Tryz.prog.info? 3).map (fun i => (i.zero, i.size, i.bytes)) = some (some (.int .i64 0), 1, 8) := by kernel_rfl
set_option maxRecDepth 100000 in
set_option maxHeartbeats 8000000 in
theorem cols_c (A : Option Addr) (c : Nat) (e : List S41) (w : World) (hC : Kd.C k41 w A e.length e) (hl : e.length ≤ 2513169434843) :
    Calls Tryz.prog 23 #[.slice A e.length c] w fun en w' => ∃ v, en = .returned v ∧ Kd.R (Kd.int .i64) 3 w' w.heap.size (fun _ => True) v (colsE e) ∧ Below w.heap.size w w' := by
  have HC := hidF hC
  clear hC
  go_enter Tryz.func23, Tryz.ntmps23
  go_wp2
  go_loopw [3, 8] (fun v3 v wr => ∃ i : Nat, v = .int .i64 (i : Int) ∧ i ≤ e.length ∧ Hid (Below w.heap.size w wr) ∧ Hid (Kd.R (Kd.int .i64) 3 wr w.heap.size (fun _ => True) v3 (namesE (e.take i)))) (fun _ v _ => e.length - natOfV v)
  case atStart => exact ⟨0, rfl, by omega, hidF (Below.refl _ _), hidF (Kd.R_nil _ _ _ _ _)⟩
  case round =>
    obtain ⟨i, rfl, hil, HB, HR⟩ := hrel
    by_cases hlt : i < e.length
    · obtain ⟨d, hd⟩ : ∃ d, e[i]? = some d := ⟨_, List.getElem?_eq_getElem hlt⟩
      have rdd : rd_T41 e (i : Int) = d := by
        unfold rd_T41
        simp only [Int.toNat_natCast, List.getD_eq_getElem?_getD]
        rw [hd]; rfl
      obtain ⟨ad, ea, k0, k1, k2, k3, k4, k5⟩ := at_T41 (Kd.C_below HC.out HB.out) (i : Int) (by omega) (by omega)
      cases ea
      rw [rdd] at k0 k1 k2 k3 k4 k5
      simp only [Int.toNat_natCast] at k0 k1 k2 k3 k4 k5
      have hii : (i : Int) < (e.length : Int) := by omega
      have hwle := HB.out.size
      have HN := hidF (names_take hd)
      have hnl : (namesE (e.take i)).length ≤ i := Nat.le_trans (names_len _) (by simp; omega)
      by_cases h2 : d.f0 = 2
      · rw [if_pos h2] at HN
        obtain ⟨A1, c1, rfl⟩ := Kd.R_slice HR.out
        have e2 : (d.f0 == 2) = true := beq_iff_eq.2 h2
        obtain ⟨W1, hW1⟩ : ∃ W1, wr.alloc (.cells #[.int .i64 d.f0, .int .i64 d.f1, .int .i64 d.f2.f0, .int .i64 d.f2.f1, .int .u64 d.f2.f2, .string d.f2.f3] 41) = W1 := ⟨_, rfl⟩
        obtain ⟨D, hD⟩ : ∃ D, wr.heap.size = D := ⟨_, rfl⟩
        have hDz : w.heap.size ≤ W1.heap.size := by rw [← hW1]; simp; omega
        have HBa := hidF (show Below w.heap.size w W1 by rw [← hW1]; exact HB.out.alloc HB.out.size _)
        have HRa := hidF (show Kd.R (Kd.int .i64) 3 W1 w.heap.size (fun _ => True) _ (namesE (e.take i)) by rw [← hW1]; exact Kd.R_alloc HR.out _)
        have m0 : W1.cell? ⟨D, 0, none⟩ = some (.int .i64 d.f0) := by rw [← hW1, ← hD]; exact (blk_cell (heap_alloc_new _ _) 0).trans rfl
        have m1 : W1.cell? ⟨D, 1, none⟩ = some (.int .i64 d.f1) := by rw [← hW1, ← hD]; exact (blk_cell (heap_alloc_new _ _) 1).trans rfl
        clear hd rdd h2
        go_wp2_with (first | ((with_reducible refine gate_dst (N := 19) rfl ?_); refine Kd.R_append (Kd.int .i64) (w0 := w) w.heap.size rfl (.tmp 15) (.tmp 18) 39 3 (.int .i64 0) 8 rfl Tryz.underlying39 infoI rfl (by decide) (by omega) (.slice A1 _ c1) (namesE (e.take i)) d.f1 [.int .i64 d.f1] (fun _ => True) (fun _ => False) rfl rfl ?aP (fun _ hk => hk.elim) ?aF ?aO ?aB ?aS ?aL ?_; (case aP => exact rfl); (case aF => exact (fun _ _ => trivial)); (case aO => exact (by (with_reducible repeat (first | apply Kd.R_alloc | apply Kd.R_drewN | apply Kd.R_drew)); exact HRa.out)); (case aB => exact HBa.out); (case aS => exact hDz); (case aL => omega); intro v1 w1 ho hb hg hat; have HO := hidF ho; have HB1 := hidF hb; clear ho hb hg hat))
        go_roundw
        case rel => exact ⟨i + 1, by go_num, by omega, HB1, hidF (by rw [HN.out]; exact HO.out)⟩
        case measure => simp [natOfV]; omega
      · rw [if_neg h2, List.append_nil] at HN
        have e2 : (d.f0 == 2) = false := beq_eq_false_iff_ne.2 h2
        clear hd rdd h2
        go_wp2_with fail
        go_roundw
        case rel => exact ⟨i + 1, by go_num, by omega, hidF (HB.out.alloc HB.out.size _), hidF (by rw [HN.out]; exact Kd.R_alloc HR.out _)⟩
        case measure => simp [natOfV]; omega
    · have hie : i = e.length := by omega
      have HR2 : Hid (Kd.R (Kd.int .i64) 3 wr w.heap.size (fun _ => True) _ (namesE e)) := hidF (by have := HR.out; rwa [hie, List.take_of_length_le (Nat.le_refl _)] at this)
      have hnl := hidF (Nat.le_trans (names_len e) hl)
      obtain ⟨A1, c1, rfl⟩ := Kd.R_slice HR2.out
      have hii : ¬ (i : Int) < (e.length : Int) := by omega
      clear hie hlt hil HR
      go_wp2_with (first
        | (go_at_call 47; ((with_reducible refine (sortI_c HR2.out hnl.out).mono ?_); rintro en w1 ⟨rfl, h1, hb1⟩; have HR3 := hidF h1; have HB1 := hidF hb1; clear h1 hb1))
        | (go_at_call 48; ((with_reducible refine (compactI_c HR3.out (by rw [List.length_mergeSort]; exact hnl.out)).mono ?_); rintro en w2 ⟨v2, rfl, h1, hb1⟩; have HR4 := hidF h1; have HB2 := hidF hb1; clear h1 hb1)))
      exact bodyPost_ret (v := v2) (by simp [results, Tryz.results23, go_sem, *]) rfl ⟨_, rfl, HR4.out, HB.out.trans (HB1.out.trans HB2.out)⟩
end Go.Proofs.YtakcjiinchghaaaGreatDoor
end
section
namespace Go.Proofs.YtakcjiinchghaaaGreatDoor
set_option linter.unusedVariables false
set_option linter.unusedSimpArgs false
open Go.RowKit Go.Proofs.YtakcjiinchghaaaGreatDoorW.PrintWords Go.Proofs.YtakcjiinchghaaaGreatDoorW.PrintLast PRW
def xESound.f (l : List S41) (n : Int) : Option Bool := if rngD l = true then some (soundE l n) else none
theorem xESound.calls (A0 : Option Addr) (c0 : Nat) (l : List S41) (n : Int) (r : Bool) (w : World) (hr0 : Kd.C k41 w A0 l.length l) (hc0 : l.length ≤ c0) (h : xESound.f l n = some r) :
    Calls Tryz.prog 13 #[.slice A0 l.length c0, .int .i64 n] w fun e w' => e = .returned (.bool r) ∧ Below w.heap.size w w' := by
  obtain ⟨hl, rfl⟩ := ext_of h
  exact esound_c A0 c0 l n w hr0 hc0 (fun d hd => (rngD_at hl d hd).2.1)
def xEval.f (l : List S41) (m : List S29) : Option (Int × Int × Int × ByteArray × Int) :=
  if rngD l = true ∧ rngL m = true then some ((evalE l m).v.f0, (evalE l m).v.f1, (evalE l m).v.f2, (evalE l m).v.f3, (evalE l m).e) else none
theorem xEval.calls (A0 : Option Addr) (c0 : Nat) (l : List S41) (A1 : Option Addr) (c1 : Nat) (m : List S29) (r1 r2 r3 : Int) (r4 : ByteArray) (r5 : Int) (w : World) (hr0 : Kd.C k41 w A0 l.length l) (hc0 : l.length ≤ c0) (hr1 : Kd.C k29 w A1 m.length m) (hc1 : m.length ≤ c1) (hT : ETab w) (h : xEval.f l m = some (r1, r2, r3, r4, r5)) :
    Calls Tryz.prog 11 #[.slice A0 l.length c0, .slice A1 m.length c1] w fun e w' => e = .returned (.tuple #[.agg #[.int .i64 r1, .int .i64 r2, .int .u64 r3, .string r4], .int .i64 r5]) ∧ Below w.heap.size w w' := by
  obtain ⟨⟨hl, hm⟩, he⟩ := ext_of h
  simp only [Prod.mk.injEq] at he
  obtain ⟨rfl, rfl, rfl, rfl, rfl⟩ := he
  exact eval_c A0 c0 l A1 c1 m w hr0 hc0 hr1 hT.pow (fun d hd => (rngD_at hl d hd).2.1) (rngL_I hm)
def xType.f (l : List S41) (m : List S57) : Option (Int × Bool × Bool) := if rngD l = true then some (typeE l m) else none
theorem xType.calls (A0 : Option Addr) (c0 : Nat) (l : List S41) (A1 : Option Addr) (c1 : Nat) (m : List S57) (r1 : Int) (r2 r3 : Bool) (w : World) (hr0 : Kd.C k41 w A0 l.length l) (hc0 : l.length ≤ c0) (hr1 : Kd.C k57 w A1 m.length m) (hc1 : m.length ≤ c1) (h : xType.f l m = some (r1, r2, r3)) :
    Calls Tryz.prog 15 #[.slice A0 l.length c0, .slice A1 m.length c1] w fun e w' => e = .returned (.tuple #[.int .i64 r1, .bool r2, .bool r3]) ∧ Below w.heap.size w w' := by
  obtain ⟨hl, he⟩ := ext_of h
  have := type_c kfn A0 c0 l A1 c1 m w hr0 hc0 hr1 (fun d hd => (rngD_at hl d hd).2.1)
  rw [he] at this
  exact this
def xSafe.f (l : List S41) (m : List S57) : Option Bool := if rngD l = true then some (safeE l m) else none
theorem xSafe.calls (A0 : Option Addr) (c0 : Nat) (l : List S41) (A1 : Option Addr) (c1 : Nat) (m : List S57) (r : Bool) (w : World) (hr0 : Kd.C k41 w A0 l.length l) (hc0 : l.length ≤ c0) (hr1 : Kd.C k57 w A1 m.length m) (hc1 : m.length ≤ c1) (h : xSafe.f l m = some r) :
    Calls Tryz.prog 17 #[.slice A0 l.length c0, .slice A1 m.length c1] w fun e w' => e = .returned (.bool r) ∧ Below w.heap.size w w' := by
  obtain ⟨hl, rfl⟩ := ext_of h
  exact safe_c kfn A0 c0 l A1 c1 m w hr0 hc0 hr1 (fun d hd => (rngD_at hl d hd).2.1)
def xMove.f (l : List S41) (m : List Int) : Option (List S41 × Int) := if l.length ≤ 2513169434843 then some (moveE l m, moveF l m) else none
theorem xMove.calls (A0 : Option Addr) (c0 : Nat) (l : List S41) (A1 : Option Addr) (c1 : Nat) (m : List Int) (r1 : List S41) (r2 : Int) (w : World) (hr0 : Kd.C k41 w A0 l.length l) (hc0 : l.length ≤ c0) (hr1 : Kd.C (Kd.int .i64) w A1 m.length m) (hc1 : m.length ≤ c1) (h : xMove.f l m = some (r1, r2)) :
    Calls Tryz.prog 19 #[.slice A0 l.length c0, .slice A1 m.length c1] w fun e w' => ∃ v0_ : Value, e = .returned (.tuple #[v0_, .int .i64 r2]) ∧ Kd.R k41 41 w' w.heap.size (fun _ => True) v0_ r1 ∧ Below w.heap.size w w' := by
  obtain ⟨hl, he⟩ := ext_of h
  simp only [Prod.mk.injEq] at he
  obtain ⟨rfl, rfl⟩ := he
  exact move_c A0 c0 l A1 c1 m w hr0 hr1 hl
def xCols.f (l : List S41) : Option (List Int) := if l.length ≤ 2513169434843 then some (colsE l) else none
theorem xCols.calls (A0 : Option Addr) (c0 : Nat) (l : List S41) (r : List Int) (w : World) (hr0 : Kd.C k41 w A0 l.length l) (hc0 : l.length ≤ c0) (h : xCols.f l = some r) :
    Calls Tryz.prog 23 #[.slice A0 l.length c0] w fun e w' => ∃ v0_ : Value, e = .returned v0_ ∧ Kd.R (Kd.int .i64) 3 w' w.heap.size (fun _ => True) v0_ r ∧ Below w.heap.size w w' := by
  obtain ⟨hl, rfl⟩ := ext_of h
  exact cols_c A0 c0 l w hr0 hl
/-- the codes of all steps are such numbers as the machine has -/
def rngC (e : List S41) : Bool := e.all fun d => decide (-9223372036854775808 ≤ d.f0) && decide (d.f0 ≤ 9223372036854775807)
def xEShow.f (l : List S41) : Option ByteArray := if rngD l = true ∧ rngC l = true ∧ l.length ≤ 1000000 ∧ (l.all fun d => decide ((stepS d).size ≤ 1099511627776)) = true then xJoin.f (partsE l) ⟨#[32]⟩ else none
theorem xEShow.calls (A0 : Option Addr) (c0 : Nat) (l : List S41) (r : ByteArray) (w : World) (hr0 : Kd.C k41 w A0 l.length l) (hc0 : l.length ≤ c0) (hT : ETab w) (h : xEShow.f l = some r) :
    Calls Tryz.prog 25 #[.slice A0 l.length c0] w fun e w' => e = .returned (.string r) ∧ Below w.heap.size w w' := by
  unfold xEShow.f at h
  split at h
  · rename_i hc
    refine eshow_c A0 c0 l w hr0 hT (fun d hd => ?_) hc.2.2.1 (fun d hd => of_decide_eq_true (List.all_eq_true.1 hc.2.2.2 d hd)) r h
    have h1 := List.all_eq_true.1 hc.2.1 d hd
    simp only [Bool.and_eq_true, decide_eq_true_eq] at h1
    have h2 := rngD_at hc.1 d hd
    exact ⟨⟨h1.1, h1.2⟩, h2.1, h2.2.1, h2.2.2⟩
  · cases h
end Go.Proofs.YtakcjiinchghaaaGreatDoor
end
section
namespace Go.Proofs.YtakcjiinchghaaaGreatDoor
set_option linter.unusedVariables false
set_option linter.unusedSimpArgs false
open Go.RowKit Go.Proofs.YtakcjiinchghaaaGreatDoorW.PrintWords Go.Proofs.YtakcjiinchghaaaGreatDoorW.PrintLast PRW
theorem flat_at {α β : Type} (enc : α → List β) (s : Nat) (hs : ∀ x, (enc x).length = s) : ∀ (l : List α) (j : Nat) (x : α) (i : Nat), l[j]? = some x → i < s → (l.flatMap enc)[j * s + i]? = (enc x)[i]?
  | [], j, x, i, h, _ => by simp at h
  | q :: t, 0, x, i, h, hi => by
    simp at h; subst h
    rw [List.flatMap_cons, Nat.zero_mul, Nat.zero_add, List.getElem?_append_left (by rw [hs]; exact hi)]
  | q :: t, j + 1, x, i, h, hi => by
    have := flat_at enc s hs t j x i (by simpa using h) hi
    rw [List.flatMap_cons, List.getElem?_append_right (by rw [hs, Nat.succ_mul]; omega), hs, show (j + 1) * s + i - s = j * s + i by rw [Nat.succ_mul]; omega]
    exact this
/-- a row that is laid out of things whose cells are known -/
theorem C_lit {α : Type} {d : Kd α} (enc : α → List Value) (hsz : ∀ x, (enc x).length = d.sz) (hK : ∀ w x, d.K w x (enc x)) (W : World) (t : TypeId) (l : List α) (hl : l.length ≤ 9223372036854775807) :
    Kd.C d (W.alloc (.cells (l.flatMap enc).toArray t (0, 0))) (some ⟨W.heap.size, 0, none⟩) l.length l := by
  refine ⟨rfl, hl, fun _ => ⟨_, rfl, fun j x hx => ⟨enc x, hsz x, hK _ x, fun i u hu => ?_⟩⟩⟩
  have hi : i < d.sz := by rw [← hsz x]; exact (List.getElem?_eq_some_iff.1 hu).1
  have hblk := heap_alloc_new W (.cells (l.flatMap enc).toArray t (0, 0))
  have e : ((⟨W.heap.size, 0, none⟩ : Addr).add (j * d.sz + i)) = ⟨W.heap.size, j * d.sz + i, none⟩ := by
    unfold Addr.add; split <;> simp_all
  rw [e, blk_cell hblk, List.getElem?_toArray, flat_at enc d.sz hsz l j x i hx hi]
  exact hu
theorem nilC5 {α : Type} (d : Kd α) (W : World) : Kd.C d W none 0 [] := ⟨rfl, by simp, fun h => by simp at h⟩
def encD (x : S41) : List Value := [.int .i64 x.f0, .int .i64 x.f1, .int .i64 x.f2.f0, .int .i64 x.f2.f1, .int .u64 x.f2.f2, .string x.f2.f3]
def encV (x : S29) : List Value := [.int .i64 x.f0, .int .i64 x.f1, .int .u64 x.f2, .string x.f3]
def encC (x : S57) : List Value := [.string x.f0, .int .i64 x.f1, .bool x.f2]
def encN (x : Int) : List Value := [.int .i64 x]
/-- a world with steps, rows, columns, numbers that lie in it -/
structure SA (w0 W : World) (M : List (Option Addr × Nat × List S41)) (R : List (Option Addr × Nat × List S29)) (C : List (Option Addr × Nat × List S57)) (I : List (Option Addr × Nat × List Int)) : Prop where
  bel : Below w0.heap.size w0 W
  tab : ETab W
  dos : ∀ t ∈ M, t.2.2.length ≤ t.2.1 ∧ Kd.C k41 W t.1 t.2.2.length t.2.2
  rows : ∀ t ∈ R, t.2.2.length ≤ t.2.1 ∧ Kd.C k29 W t.1 t.2.2.length t.2.2
  cols : ∀ t ∈ C, t.2.2.length ≤ t.2.1 ∧ Kd.C k57 W t.1 t.2.2.length t.2.2
  nums : ∀ t ∈ I, t.2.2.length ≤ t.2.1 ∧ Kd.C (Kd.int .i64) W t.1 t.2.2.length t.2.2
section
variable {w0 W W' : World} {M : List (Option Addr × Nat × List S41)} {R : List (Option Addr × Nat × List S29)} {C : List (Option Addr × Nat × List S57)} {I : List (Option Addr × Nat × List Int)}
theorem SA.below (h : SA w0 W M R C I) (hb : Below W.heap.size W W') : SA w0 W' M R C I :=
  ⟨h.bel.trans (hb.mono h.bel.size), h.tab.below hb, fun t ht => ⟨(h.dos t ht).1, Kd.C_below (h.dos t ht).2 hb⟩, fun t ht => ⟨(h.rows t ht).1, Kd.C_below (h.rows t ht).2 hb⟩, fun t ht => ⟨(h.cols t ht).1, Kd.C_below (h.cols t ht).2 hb⟩, fun t ht => ⟨(h.nums t ht).1, Kd.C_below (h.nums t ht).2 hb⟩⟩
theorem SA.addD (h : SA w0 W M R C I) {A : Option Addr} {c : Nat} {l : List S41} (hc : l.length ≤ c) (hC : Kd.C k41 W A l.length l) : SA w0 W ((A, c, l) :: M) R C I :=
  ⟨h.bel, h.tab, List.forall_mem_cons.2 ⟨⟨hc, hC⟩, h.dos⟩, h.rows, h.cols, h.nums⟩
theorem SA.addR (h : SA w0 W M R C I) {A : Option Addr} {c : Nat} {l : List S29} (hc : l.length ≤ c) (hC : Kd.C k29 W A l.length l) : SA w0 W M ((A, c, l) :: R) C I :=
  ⟨h.bel, h.tab, h.dos, List.forall_mem_cons.2 ⟨⟨hc, hC⟩, h.rows⟩, h.cols, h.nums⟩
theorem SA.addC (h : SA w0 W M R C I) {A : Option Addr} {c : Nat} {l : List S57} (hc : l.length ≤ c) (hC : Kd.C k57 W A l.length l) : SA w0 W M R ((A, c, l) :: C) I :=
  ⟨h.bel, h.tab, h.dos, h.rows, List.forall_mem_cons.2 ⟨⟨hc, hC⟩, h.cols⟩, h.nums⟩
theorem SA.addI (h : SA w0 W M R C I) {A : Option Addr} {c : Nat} {l : List Int} (hc : l.length ≤ c) (hC : Kd.C (Kd.int .i64) W A l.length l) : SA w0 W M R C ((A, c, l) :: I) :=
  ⟨h.bel, h.tab, h.dos, h.rows, h.cols, List.forall_mem_cons.2 ⟨⟨hc, hC⟩, h.nums⟩⟩
theorem SA.al (h : SA w0 W M R C I) (o : Obj) : SA w0 (W.alloc o) M R C I := h.below ((Below.refl _ _).alloc (Nat.le_refl _) _)
theorem SA.litD (h : SA w0 W M R C I) (l : List S41) (hl : l.length ≤ 9223372036854775807) : SA w0 (W.alloc (.cells (l.flatMap encD).toArray 41 (0, 0))) ((some ⟨W.heap.size, 0, none⟩, l.length, l) :: M) R C I :=
  (h.al _).addD (Nat.le_refl _) (C_lit encD (fun _ => rfl) (fun w x => k41_mk w x) W _ l hl)
theorem SA.litR (h : SA w0 W M R C I) (l : List S29) (hl : l.length ≤ 9223372036854775807) : SA w0 (W.alloc (.cells (l.flatMap encV).toArray 29 (0, 0))) M ((some ⟨W.heap.size, 0, none⟩, l.length, l) :: R) C I :=
  (h.al _).addR (Nat.le_refl _) (C_lit encV (fun _ => rfl) (fun w x => k29_mk w x) W _ l hl)
theorem SA.litC (h : SA w0 W M R C I) (l : List S57) (hl : l.length ≤ 9223372036854775807) : SA w0 (W.alloc (.cells (l.flatMap encC).toArray 57 (0, 0))) M R ((some ⟨W.heap.size, 0, none⟩, l.length, l) :: C) I :=
  (h.al _).addC (Nat.le_refl _) (C_lit encC (fun _ => rfl) (fun w x => k57_mk w x) W _ l hl)
theorem SA.litI (h : SA w0 W M R C I) (l : List Int) (hl : l.length ≤ 9223372036854775807) : SA w0 (W.alloc (.cells (l.flatMap encN).toArray 3 (0, 0))) M R C ((some ⟨W.heap.size, 0, none⟩, l.length, l) :: I) :=
  (h.al _).addI (Nat.le_refl _) (C_lit encN (fun _ => rfl) (fun w x => rfl) W _ l hl)
theorem eval_s (h : SA w0 W M R C I) {A B : Option Addr} {c d : Nat} {l : List S41} {k : List S29} {r1 r2 r3 : Int} {r4 : ByteArray} {r5 : Int} (hm : (A, c, l) ∈ M) (hk : (B, d, k) ∈ R) (hf : xEval.f l k = some (r1, r2, r3, r4, r5)) (m m' : Nat) (hl : l.length = m) (hl' : k.length = m') :
    Calls Tryz.prog 11 #[.slice A m c, .slice B m' d] W fun e w' => e = .returned (.tuple #[.agg #[.int .i64 r1, .int .i64 r2, .int .u64 r3, .string r4], .int .i64 r5]) ∧ SA w0 w' M R C I := by
  subst hl; subst hl'
  refine (xEval.calls A c l B d k r1 r2 r3 r4 r5 W (h.dos _ hm).2 (h.dos _ hm).1 (h.rows _ hk).2 (h.rows _ hk).1 h.tab hf).mono ?_
  rintro e w' ⟨rfl, hb⟩
  exact ⟨rfl, h.below hb⟩
theorem type_s (h : SA w0 W M R C I) {A B : Option Addr} {c d : Nat} {l : List S41} {k : List S57} {r1 : Int} {r2 r3 : Bool} (hm : (A, c, l) ∈ M) (hk : (B, d, k) ∈ C) (hf : xType.f l k = some (r1, r2, r3)) (m m' : Nat) (hl : l.length = m) (hl' : k.length = m') :
    Calls Tryz.prog 15 #[.slice A m c, .slice B m' d] W fun e w' => e = .returned (.tuple #[.int .i64 r1, .bool r2, .bool r3]) ∧ SA w0 w' M R C I := by
  subst hl; subst hl'
  refine (xType.calls A c l B d k r1 r2 r3 W (h.dos _ hm).2 (h.dos _ hm).1 (h.cols _ hk).2 (h.cols _ hk).1 hf).mono ?_
  rintro e w' ⟨rfl, hb⟩
  exact ⟨rfl, h.below hb⟩
theorem safe_s (h : SA w0 W M R C I) {A B : Option Addr} {c d : Nat} {l : List S41} {k : List S57} {r : Bool} (hm : (A, c, l) ∈ M) (hk : (B, d, k) ∈ C) (hf : xSafe.f l k = some r) (m m' : Nat) (hl : l.length = m) (hl' : k.length = m') :
    Calls Tryz.prog 17 #[.slice A m c, .slice B m' d] W fun e w' => e = .returned (.bool r) ∧ SA w0 w' M R C I := by
  subst hl; subst hl'
  refine (xSafe.calls A c l B d k r W (h.dos _ hm).2 (h.dos _ hm).1 (h.cols _ hk).2 (h.cols _ hk).1 hf).mono ?_
  rintro e w' ⟨rfl, hb⟩
  exact ⟨rfl, h.below hb⟩
theorem move_s (h : SA w0 W M R C I) {A B : Option Addr} {c d : Nat} {l r1 : List S41} {k : List Int} {r2 : Int} (hm : (A, c, l) ∈ M) (hk : (B, d, k) ∈ I) (hf : xMove.f l k = some (r1, r2)) (m m' n : Nat) (hl : l.length = m) (hl' : k.length = m') (hn : r1.length = n) :
    Calls Tryz.prog 19 #[.slice A m c, .slice B m' d] W fun e w' => ∃ A c, e = .returned (.tuple #[.slice A n c, .int .i64 r2]) ∧ SA w0 w' ((A, c, r1) :: M) R C I := by
  subst hl; subst hl'
  refine (xMove.calls A c l B d k r1 r2 W (h.dos _ hm).2 (h.dos _ hm).1 (h.nums _ hk).2 (h.nums _ hk).1 hf).mono ?_
  rintro e w' ⟨v, rfl, hR, hb⟩
  obtain ⟨A, c, rfl, hc, hC⟩ := Kd.R_reads hR
  exact ⟨A, c, by rw [hn], (h.below hb).addD hc hC⟩
theorem cols_s (h : SA w0 W M R C I) {A : Option Addr} {c : Nat} {l : List S41} {r : List Int} (hm : (A, c, l) ∈ M) (hf : xCols.f l = some r) (m n : Nat) (hl : l.length = m) (hn : r.length = n) :
    Calls Tryz.prog 23 #[.slice A m c] W fun e w' => ∃ A c, e = .returned (.slice A n c) ∧ SA w0 w' M R C ((A, c, r) :: I) := by
  subst hl
  refine (xCols.calls A c l r W (h.dos _ hm).2 (h.dos _ hm).1 hf).mono ?_
  rintro e w' ⟨v, rfl, hR, hb⟩
  obtain ⟨A, c, rfl, hc, hC⟩ := Kd.R_reads hR
  exact ⟨A, c, by rw [hn], (h.below hb).addI hc hC⟩
theorem sound_s (h : SA w0 W M R C I) {A : Option Addr} {c : Nat} {l : List S41} {n : Int} {r : Bool} (hm : (A, c, l) ∈ M) (hf : xESound.f l n = some r) (m : Nat) (hl : l.length = m) :
    Calls Tryz.prog 13 #[.slice A m c, .int .i64 n] W fun e w' => e = .returned (.bool r) ∧ SA w0 w' M R C I := by
  subst hl
  refine (xESound.calls A c l n r W (h.dos _ hm).2 (h.dos _ hm).1 hf).mono ?_
  rintro e w' ⟨rfl, hb⟩
  exact ⟨rfl, h.below hb⟩
theorem show_s (h : SA w0 W M R C I) {A : Option Addr} {c : Nat} {l : List S41} {r : ByteArray} (hm : (A, c, l) ∈ M) (hf : xEShow.f l = some r) (m : Nat) (hl : l.length = m) :
    Calls Tryz.prog 25 #[.slice A m c] W fun e w' => e = .returned (.string r) ∧ SA w0 w' M R C I := by
  subst hl
  refine (xEShow.calls A c l r W (h.dos _ hm).2 (h.dos _ hm).1 h.tab hf).mono ?_
  rintro e w' ⟨rfl, hb⟩
  exact ⟨rfl, h.below hb⟩
theorem same_s (h : SA w0 W M R C I) {A B : Option Addr} {c d : Nat} {l k : List Int} (hm : (A, c, l) ∈ I) (hk : (B, d, k) ∈ I) {r : Bool} (hf : freshetlaw05_same.f 10 l k = some r) (m m' : Nat) (hl : l.length = m) (hl' : k.length = m') :
    Calls Tryz.prog 22 #[.slice A m c, .slice B m' d] W fun e w' => e = .returned (.bool r) ∧ SA w0 w' M R C I := by
  subst hl; subst hl'
  refine (freshetlaw05_same.calls 10 A c l B d k r W (h.nums _ hm).2 (h.nums _ hm).1 (h.nums _ hk).2 (h.nums _ hk).1 hf).mono ?_
  rintro e w' ⟨rfl, hd⟩
  exact ⟨rfl, h.below hd.below⟩
end
set_option maxRecDepth 100000 in
theorem num_c (n : Int) (W : World) : Calls Tryz.prog 29 #[.int .i64 n] W fun e w' => e = .returned (.agg #[.int .i64 1, .int .i64 0, .int .i64 2, .int .i64 n, .int .u64 0, .string ⟨#[]⟩]) ∧ Below W.heap.size W w' := by
  go_enter Tryz.func29, Tryz.ntmps29
  go_wp2
  exact bodyPost_ret (v := .agg #[.int .i64 1, .int .i64 0, .int .i64 2, .int .i64 n, .int .u64 0, .string ⟨#[]⟩]) (by simp [results, Tryz.results29, go_sem, *]) rfl ⟨rfl, (by repeat (first | (with_reducible exact Below.refl _ _) | (with_reducible refine below_al ?_ _) | (with_reducible refine below_drewN ?_ _) | (with_reducible refine Below.drew ?_) | (with_reducible refine below_via (by assumption) ?_) | (with_reducible refine below_sc ?_ ?_ _; · (first | (simp; done) | (simp; omega) | omega))))⟩
theorem num_s {w0 W : World} {M : List (Option Addr × Nat × List S41)} {R : List (Option Addr × Nat × List S29)} {C : List (Option Addr × Nat × List S57)} {I : List (Option Addr × Nat × List Int)} (h : SA w0 W M R C I) (n : Int) :
    Calls Tryz.prog 29 #[.int .i64 n] W fun e w' => e = .returned (.agg #[.int .i64 1, .int .i64 0, .int .i64 2, .int .i64 n, .int .u64 0, .string ⟨#[]⟩]) ∧ SA w0 w' M R C I := by
  refine (num_c n W).mono ?_
  rintro e w' ⟨rfl, hb⟩
  exact ⟨rfl, h.below hb⟩
abbrev nD (n : Int) : S41 := ⟨1, 0, ⟨2, n, 0, ⟨#[]⟩⟩⟩
abbrev cD (c : Int) : S41 := ⟨c, 0, ⟨0, 0, 0, ⟨#[]⟩⟩⟩
abbrev mD (n : Int) : S41 := ⟨2, n, ⟨0, 0, 0, ⟨#[]⟩⟩⟩
theorem aw_eval1 : xEval.f [cD 2, nD 5, cD 10] [⟨2, 3, 0, ⟨#[]⟩⟩] = some (2, 8, 0, ⟨#[]⟩, 0) := by kernel_rfl
theorem aw_eval2 : xEval.f [nD 5, nD 0, cD 13, nD 9223372036854775807, nD 1, cD 10, cD 16] [] = some (0, 0, 0, ⟨#[]⟩, 10) := by kernel_rfl
theorem aw_type : xType.f [cD 2, nD 5, cD 10] [⟨⟨#[]⟩, 2, true⟩] = some (2, true, true) := by kernel_rfl
theorem aw_move : xMove.f [cD 2, nD 5, cD 10] [7] = some ([mD 7, nD 5, cD 10], 0) := by kernel_rfl
theorem aw_cols : xCols.f [mD 7, nD 5, cD 10] = some [7] := by
  have h : namesE [mD 7, nD 5, cD 10] = [7] := by kernel_rfl
  unfold xCols.f colsE
  rw [h, if_pos (by decide)]
  rw [List.mergeSort_singleton]
  rfl
theorem aw_sound : xESound.f [cD 2, nD 5, cD 10] 1 = some true := by kernel_rfl
theorem aw_show : xEShow.f [cD 2, nD 5, cD 10] = some ⟨#[50, 58, 48, 32, 49, 58, 53, 32, 49, 48, 58]⟩ := by kernel_rfl
theorem aw_same : freshetlaw05_same.f 10 [7] [7] = some true := by kernel_rfl
theorem aw_safe1 : xSafe.f [cD 2, nD 5, cD 10] [⟨⟨#[]⟩, 2, false⟩] = some false := by kernel_rfl
theorem aw_safe2 : xSafe.f [cD 2] [⟨⟨#[]⟩, 2, false⟩] = some true := by kernel_rfl
end Go.Proofs.YtakcjiinchghaaaGreatDoor
end
section
namespace Go.Proofs.YtakcjiinchghaaaGreatDoor
set_option linter.unusedVariables false
set_option linter.unusedSimpArgs false
open Go.RowKit Go.Proofs.YtakcjiinchghaaaGreatDoorW.PrintWords Go.Proofs.YtakcjiinchghaaaGreatDoorW.PrintLast PRW
set_option maxRecDepth 1000000 in
set_option maxHeartbeats 16000000 in
theorem awake5_c (w : World) (hT : ETab w) : Calls Tryz.prog 10 #[] w fun e w' => e = .returned (.bool true) ∧ Below w.heap.size w w' := by
  have HS0 := hidF (show SA w w [] [(none, 0, [])] [] [] from ⟨Below.refl _ _, hT, fun t ht => absurd ht List.not_mem_nil, List.forall_mem_cons.2 ⟨⟨Nat.le_refl _, nilC5 _ _⟩, fun t ht => absurd ht List.not_mem_nil⟩, fun t ht => absurd ht List.not_mem_nil, fun t ht => absurd ht List.not_mem_nil⟩)
  clear hT
  go_enter Tryz.func10, Tryz.ntmps10
  go_wp2_with fail
  (with_reducible refine (num_s HS0.out 5).mono ?_)
  rintro e w1 ⟨rfl, hS⟩
  have HS1 := hidF hS
  clear hS HS0
  have HSL := hidF (show SA w (w1.alloc (.cells #[.int .i64 (2), .int .i64 (0), .int .i64 (0), .int .i64 (0), .int .u64 0, .string ⟨#[]⟩, .int .i64 (1), .int .i64 (0), .int .i64 (2), .int .i64 (5), .int .u64 0, .string ⟨#[]⟩, .int .i64 (10), .int .i64 (0), .int .i64 (0), .int .i64 (0), .int .u64 0, .string ⟨#[]⟩] 41 (0, 0))) _ _ _ _ from HS1.out.litD [cD 2, nD 5, cD 10] (by simp))
  clear HS1
  have HS1 := HSL
  clear HSL
  have HSL := hidF (show SA w ((w1.alloc (.cells #[.int .i64 (2), .int .i64 (0), .int .i64 (0), .int .i64 (0), .int .u64 0, .string ⟨#[]⟩, .int .i64 (1), .int .i64 (0), .int .i64 (2), .int .i64 (5), .int .u64 0, .string ⟨#[]⟩, .int .i64 (10), .int .i64 (0), .int .i64 (0), .int .i64 (0), .int .u64 0, .string ⟨#[]⟩] 41 (0, 0))).alloc (.cells #[.int .i64 (2), .int .i64 (3), .int .u64 0, .string ⟨#[]⟩] 29 (0, 0))) _ _ _ _ from HS1.out.litR [⟨2, 3, 0, ⟨#[]⟩⟩] (by simp))
  clear HS1
  have HS1 := HSL
  clear HSL
  go_wp2_with fail
  (with_reducible refine (eval_s HS1.out (l := [cD 2, nD 5, cD 10]) (k := [⟨2, 3, 0, ⟨#[]⟩⟩]) (by simp) (by simp) aw_eval1 3 1 rfl rfl).mono ?_)
  rintro e w2 ⟨rfl, hS⟩
  have HS2 := hidF hS
  clear hS HS1
  have HSL := hidF (show SA w (w2.alloc (.cells #[.int .i64 (2), .int .i64 (8), .int .u64 0, .string ⟨#[]⟩] 29 (0, 0))) _ _ _ _ from HS2.out.litR [⟨2, 8, 0, ⟨#[]⟩⟩] (by simp))
  clear HS2
  have HS2 := HSL
  clear HSL
  have HSL := hidF (show SA w ((w2.alloc (.cells #[.int .i64 (2), .int .i64 (8), .int .u64 0, .string ⟨#[]⟩] 29 (0, 0))).alloc (.cells #[.string ⟨#[]⟩, .int .i64 2, .bool true] 57 (0, 0))) _ _ _ _ from HS2.out.litC [⟨⟨#[]⟩, 2, true⟩] (by simp))
  clear HS2
  have HS2 := HSL
  clear HSL
  go_wp2_with fail
  (with_reducible refine (type_s HS2.out (l := [cD 2, nD 5, cD 10]) (k := [⟨⟨#[]⟩, 2, true⟩]) (by simp) (by simp) aw_type 3 1 rfl rfl).mono ?_)
  rintro e w3 ⟨rfl, hS⟩
  have HS3 := hidF hS
  clear hS HS2
  go_wp2_with fail
  (with_reducible refine (num_s HS3.out 5).mono ?_)
  rintro e w4 ⟨rfl, hS⟩
  have HS4 := hidF hS
  clear hS HS3
  go_wp2_with fail
  (with_reducible refine (num_s HS4.out 0).mono ?_)
  rintro e w5 ⟨rfl, hS⟩
  have HS5 := hidF hS
  clear hS HS4
  go_wp2_with fail
  (with_reducible refine (num_s HS5.out 9223372036854775807).mono ?_)
  rintro e w6 ⟨rfl, hS⟩
  have HS6 := hidF hS
  clear hS HS5
  go_wp2_with fail
  (with_reducible refine (num_s HS6.out 1).mono ?_)
  rintro e w7 ⟨rfl, hS⟩
  have HS7 := hidF hS
  clear hS HS6
  have HSL := hidF (show SA w (w7.alloc (.cells #[.int .i64 (1), .int .i64 (0), .int .i64 (2), .int .i64 (5), .int .u64 0, .string ⟨#[]⟩, .int .i64 (1), .int .i64 (0), .int .i64 (2), .int .i64 (0), .int .u64 0, .string ⟨#[]⟩, .int .i64 (13), .int .i64 (0), .int .i64 (0), .int .i64 (0), .int .u64 0, .string ⟨#[]⟩, .int .i64 (1), .int .i64 (0), .int .i64 (2), .int .i64 (9223372036854775807), .int .u64 0, .string ⟨#[]⟩, .int .i64 (1), .int .i64 (0), .int .i64 (2), .int .i64 (1), .int .u64 0, .string ⟨#[]⟩, .int .i64 (10), .int .i64 (0), .int .i64 (0), .int .i64 (0), .int .u64 0, .string ⟨#[]⟩, .int .i64 (16), .int .i64 (0), .int .i64 (0), .int .i64 (0), .int .u64 0, .string ⟨#[]⟩] 41 (0, 0))) _ _ _ _ from HS7.out.litD [nD 5, nD 0, cD 13, nD 9223372036854775807, nD 1, cD 10, cD 16] (by simp))
  clear HS7
  have HS7 := HSL
  clear HSL
  go_wp2_with fail
  (with_reducible refine (eval_s HS7.out (l := [nD 5, nD 0, cD 13, nD 9223372036854775807, nD 1, cD 10, cD 16]) (k := []) (by simp) (by simp) aw_eval2 7 0 rfl rfl).mono ?_)
  rintro e w8 ⟨rfl, hS⟩
  have HS8 := hidF hS
  clear hS HS7
  have HSL := hidF (show SA w (w8.alloc (.cells #[.int .i64 (0), .int .i64 (0), .int .u64 0, .string ⟨#[]⟩] 29 (0, 0))) _ _ _ _ from HS8.out.litR [⟨0, 0, 0, ⟨#[]⟩⟩] (by simp))
  clear HS8
  have HS8 := HSL
  clear HSL
  have HSL := hidF (show SA w ((w8.alloc (.cells #[.int .i64 (0), .int .i64 (0), .int .u64 0, .string ⟨#[]⟩] 29 (0, 0))).alloc (.cells #[.int .i64 7] 3 (0, 0))) _ _ _ _ from HS8.out.litI [7] (by simp))
  clear HS8
  have HS8 := HSL
  clear HSL
  go_wp2_with fail
  (with_reducible refine (move_s HS8.out (l := [cD 2, nD 5, cD 10]) (k := [7]) (by simp) (by simp) aw_move 3 1 3 rfl rfl rfl).mono ?_)
  rintro e w9 ⟨A9, c9, rfl, hS⟩
  have HS9 := hidF hS
  clear hS HS8
  go_wp2_with fail
  (with_reducible refine (sound_s HS9.out (l := [cD 2, nD 5, cD 10]) (by simp) aw_sound 3 rfl).mono ?_)
  rintro e w10 ⟨rfl, hS⟩
  have HS10 := hidF hS
  clear hS HS9
  obtain ⟨ad, ea, k0, k1, k2, k3⟩ := at_T29 (HS10.out.rows (some ⟨w2.heap.size, 0, none⟩, 1, [⟨2, 8, 0, ⟨#[]⟩⟩]) (by simp)).2 0 (by omega) (by simp)
  obtain rfl : ad = ⟨w2.heap.size, 0, none⟩ := (Option.some.inj ea).symm
  clear ea
  obtain ⟨bd, eb, j0, j1, j2, j3, j4, j5⟩ := at_T41 (HS10.out.dos (A9, c9, [mD 7, nD 5, cD 10]) (by simp)).2 0 (by omega) (by simp)
  simp only [] at eb
  subst eb
  clear j0 j2 j3 j4 j5
  have j1 : w10.cell? ⟨bd.block, bd.off + 1, none⟩ = some (.int .i64 7) := by simpa [Addr.add, rd_T41] using j1
  have k0 : w10.cell? ⟨w2.heap.size, 0, none⟩ = some (.int .i64 2) := by simpa [Addr.add, rd_T29] using k0
  have k1 : w10.cell? ⟨w2.heap.size, 1, none⟩ = some (.int .i64 8) := by simpa [Addr.add, rd_T29] using k1
  have k2 : w10.cell? ⟨w2.heap.size, 2, none⟩ = some (.int .u64 0) := by simpa [Addr.add, rd_T29] using k2
  have k3 : w10.cell? ⟨w2.heap.size, 3, none⟩ = some (.string ⟨#[]⟩) := by simpa [Addr.add, rd_T29] using k3
  go_wp2_with fail
  (with_reducible refine (cols_s HS10.out (l := [mD 7, nD 5, cD 10]) (by simp) aw_cols 3 1 rfl rfl).mono ?_)
  rintro e w11 ⟨A11, c11, rfl, hS⟩
  have HS11 := hidF hS
  clear hS HS10
  have HSL := hidF (show SA w (w11.alloc (.cells #[.int .i64 7] 3 (0, 0))) _ _ _ _ from HS11.out.litI [7] (by simp))
  clear HS11
  have HS11 := HSL
  clear HSL
  go_wp2_with fail
  (with_reducible refine (same_s HS11.out (l := [7]) (k := [7]) (by simp) (by simp) aw_same 1 1 rfl rfl).mono ?_)
  rintro e w12 ⟨rfl, hS⟩
  have HS12 := hidF hS
  clear hS HS11
  go_wp2_with fail
  (with_reducible refine (show_s HS12.out (l := [cD 2, nD 5, cD 10]) (by simp) aw_show 3 rfl).mono ?_)
  rintro e w13 ⟨rfl, hS⟩
  have HS13 := hidF hS
  clear hS HS12
  have HSL := hidF (show SA w (w13.alloc (.cells #[.string ⟨#[]⟩, .int .i64 2, .bool false] 57 (0, 0))) _ _ _ _ from HS13.out.litC [⟨⟨#[]⟩, 2, false⟩] (by simp))
  clear HS13
  have HS13 := HSL
  clear HSL
  go_wp2_with fail
  (with_reducible refine (safe_s HS13.out (l := [cD 2, nD 5, cD 10]) (k := [⟨⟨#[]⟩, 2, false⟩]) (by simp) (by simp) aw_safe1 3 1 rfl rfl).mono ?_)
  rintro e w14 ⟨rfl, hS⟩
  have HS14 := hidF hS
  clear hS HS13
  have HSL := hidF (show SA w (w14.alloc (.cells #[.string ⟨#[]⟩, .int .i64 2, .bool false] 57 (0, 0))) _ _ _ _ from HS14.out.litC [⟨⟨#[]⟩, 2, false⟩] (by simp))
  clear HS14
  have HS14 := HSL
  clear HSL
  have HSL := hidF (HS14.out.addD (A := some ⟨w1.heap.size, 0, none⟩) (c := 3) (l := [cD 2]) (by simp) (show Kd.C k41 _ _ 1 [cD 2] from Kd.C_take (m := 1) (HS14.out.dos (some ⟨w1.heap.size, 0, none⟩, 3, [cD 2, nD 5, cD 10]) (by simp)).2 (by simp)))
  clear HS14
  have HS14 := HSL
  clear HSL
  go_wp2_with fail
  (with_reducible refine (safe_s HS14.out (l := [cD 2]) (k := [⟨⟨#[]⟩, 2, false⟩]) (by simp) (by simp) aw_safe2 1 1 rfl rfl).mono ?_)
  rintro e w15 ⟨rfl, hS⟩
  have HS15 := hidF hS
  clear hS HS14
  go_wp2_with fail
  exact bodyPost_ret (v := .bool true) (by simp [results, Tryz.results10, go_sem, *]) rfl ⟨rfl, HS15.out.bel⟩
end Go.Proofs.YtakcjiinchghaaaGreatDoor
end
section
namespace Go.Proofs.YtakcjiinchghaaaGreatDoor
set_option linter.unusedVariables false
set_option linter.unusedSimpArgs false
open Go.RowKit Go.Proofs.YtakcjiinchghaaaGreatDoorW.PrintWords Go.Proofs.YtakcjiinchghaaaGreatDoorW.PrintLast PRW
def xAwake5.f : Option Bool := some true
theorem xAwake5.calls (r : Bool) (w : World) (hT : ETab w) (h : xAwake5.f = some r) :
    Calls Tryz.prog 10 #[] w fun e w' => e = .returned (.bool r) ∧ Below w.heap.size w w' := by
  cases Option.some.inj h
  exact awake5_c w hT
end Go.Proofs.YtakcjiinchghaaaGreatDoor
end
section
namespace Go.Proofs.YtakcjiinchghaaaGreatDoor
set_option linter.unusedVariables false
set_option linter.unusedSimpArgs false
open Go.RowKit Go.Proofs.YtakcjiinchghaaaGreatDoorW.PrintWords Go.Proofs.YtakcjiinchghaaaGreatDoorW.PrintLast PRW PRT
theorem rtakes_ev (w : Int) (d : S41) (hd : U64 d.f2.f2) : Ev (fun k => freshetref05_takes.f k d.f0 d.f1 d.f2.f0 d.f2.f1 d.f2.f2 d.f2.f3 w) (takesE w d) := by
  have j1 : ∀ b : Bool, Ev (fun k => freshetref05_takes.j1 k b d.f0 d.f1 d.f2.f0 d.f2.f1 d.f2.f2 d.f2.f3) (if b = true then 1 else if 10 ≤ d.f0 ∧ d.f0 ≤ 24 then 2 else -1) := fun b => by
    refine Ev.step (f := fun _ => some _) (fun k => ?_) (Ev.now _)
    rw [freshetref05_takes.j1]
    cases b
    · rw [if_neg Bool.false_ne_true, if_neg Bool.false_ne_true]
      by_cases h1 : d.f0 ≥ 10
      · by_cases h2 : d.f0 ≤ 24
        · rw [if_pos h1, if_pos h2, if_pos ⟨h1, h2⟩]
        · rw [if_pos h1, if_neg h2, if_neg (fun h => h2 h.2)]
      · rw [if_neg h1, if_neg (fun h => h1 h.1)]
    · rw [if_pos rfl, if_pos rfl]
  have j0 : ∀ b : Bool, Ev (fun k => freshetref05_takes.j0 k b d.f0 d.f1 d.f2.f0 d.f2.f1 d.f2.f2 d.f2.f3) (if b = true then 0 else if (3 ≤ d.f0 ∧ d.f0 ≤ 5) ∨ (d.f0 = 6 ∧ 1 ≤ d.f1 ∧ d.f1 ≤ 4) then 1 else if 10 ≤ d.f0 ∧ d.f0 ≤ 24 then 2 else -1) := fun b => by
    cases b
    · have e := j1 (decide ((3 ≤ d.f0 ∧ d.f0 ≤ 5) ∨ (d.f0 = 6 ∧ 1 ≤ d.f1 ∧ d.f1 ≤ 4)))
      simp only [decide_eq_true_eq] at e
      rw [if_neg Bool.false_ne_true]
      refine Ev.step (fun k => ?_) e
      rw [freshetref05_takes.j0, if_neg Bool.false_ne_true]
      by_cases h1 : d.f0 ≥ 3
      · by_cases h2 : d.f0 ≤ 5
        · rw [if_pos h1, if_pos h2, decide_eq_true (p := (3 ≤ d.f0 ∧ d.f0 ≤ 5) ∨ (d.f0 = 6 ∧ 1 ≤ d.f1 ∧ d.f1 ≤ 4)) (.inl ⟨h1, h2⟩)]
        · rw [if_pos h1, if_neg h2]
          by_cases h3 : d.f0 = 6
          · by_cases h4 : d.f1 ≥ 1
            · rw [if_pos h3, if_pos h4]
              congr 1
              exact decide_eq_decide.2 ⟨fun h => .inr ⟨h3, h4, h⟩, fun h => by omega⟩
            · rw [if_pos h3, if_neg h4, decide_eq_false (p := (3 ≤ d.f0 ∧ d.f0 ≤ 5) ∨ (d.f0 = 6 ∧ 1 ≤ d.f1 ∧ d.f1 ≤ 4)) (by omega)]
          · rw [if_neg h3, decide_eq_false (p := (3 ≤ d.f0 ∧ d.f0 ≤ 5) ∨ (d.f0 = 6 ∧ 1 ≤ d.f1 ∧ d.f1 ≤ 4)) (by omega)]
      · rw [if_neg h1, if_neg (by omega), decide_eq_false (p := (3 ≤ d.f0 ∧ d.f0 ≤ 5) ∨ (d.f0 = 6 ∧ 1 ≤ d.f1 ∧ d.f1 ≤ 4)) (by omega)]
    · rw [if_pos rfl]
      refine Ev.step (f := fun _ => some _) (fun k => ?_) (Ev.now _)
      rw [freshetref05_takes.j0, if_pos rfl]
  have two : Ev (fun k => if d.f0 = 2 then (if d.f1 ≥ 0 then (freshetref05_takes.j0 k (decide (d.f1 < w)) d.f0 d.f1 d.f2.f0 d.f2.f1 d.f2.f2 d.f2.f3) else (freshetref05_takes.j0 k false d.f0 d.f1 d.f2.f0 d.f2.f1 d.f2.f2 d.f2.f3)) else (freshetref05_takes.j0 k false d.f0 d.f1 d.f2.f0 d.f2.f1 d.f2.f2 d.f2.f3))
      (if d.f0 = 2 ∧ 0 ≤ d.f1 ∧ d.f1 < w then 0 else if (3 ≤ d.f0 ∧ d.f0 ≤ 5) ∨ (d.f0 = 6 ∧ 1 ≤ d.f1 ∧ d.f1 ≤ 4) then 1 else if 10 ≤ d.f0 ∧ d.f0 ≤ 24 then 2 else -1) := by
    have e := j0 (decide (d.f0 = 2 ∧ 0 ≤ d.f1 ∧ d.f1 < w))
    simp only [decide_eq_true_eq] at e
    refine Ev.congr (fun k => ?_) e
    by_cases h1 : d.f0 = 2
    · by_cases h2 : d.f1 ≥ 0
      · rw [if_pos h1, if_pos h2]
        congr 1
        exact decide_eq_decide.2 ⟨fun h => ⟨h1, h2, h⟩, fun h => h.2.2⟩
      · rw [if_pos h1, if_neg h2, decide_eq_false (fun h => h2 h.2.1)]
    · rw [if_neg h1, decide_eq_false (fun h => h1 h.1)]
  unfold takesE
  by_cases h1 : d.f0 = 1
  · have hx : xrSound.f d.f2.f0 d.f2.f1 d.f2.f2 d.f2.f3 = some (soundV d.f2.f0 d.f2.f1 d.f2.f2 d.f2.f3) := if_pos hd
    cases hs : soundV d.f2.f0 d.f2.f1 d.f2.f2 d.f2.f3
    · have e1 : ((d.f0 = 1 ∧ false = true) ∨ (d.f0 = 2 ∧ 0 ≤ d.f1 ∧ d.f1 < w)) = (d.f0 = 2 ∧ 0 ≤ d.f1 ∧ d.f1 < w) := by simp
      simp only [e1]
      refine Ev.congr (fun k => ?_) two
      rw [freshetref05_takes.f, if_pos h1, hx, hs]
      simp only [Option.bind_some]
      rw [if_neg Bool.false_ne_true]
    · rw [if_pos (.inl ⟨h1, rfl⟩)]
      have e := j0 true
      rw [if_pos rfl] at e
      refine Ev.congr (fun k => ?_) e
      rw [freshetref05_takes.f, if_pos h1, hx, hs]
      simp only [Option.bind_some]
      rw [if_pos trivial]
  · have e1 : ((d.f0 = 1 ∧ soundV d.f2.f0 d.f2.f1 d.f2.f2 d.f2.f3 = true) ∨ (d.f0 = 2 ∧ 0 ≤ d.f1 ∧ d.f1 < w)) = (d.f0 = 2 ∧ 0 ≤ d.f1 ∧ d.f1 < w) := by simp [h1]
    simp only [e1]
    refine Ev.congr (fun k => ?_) two
    rw [freshetref05_takes.f, if_neg h1]
theorem rsound_ev (e : List S41) (w : Int) (hd : ∀ d ∈ e, U64 d.f2.f2) : Ev (fun k => freshetref05_Sound.f k e w) (soundE e w) := by
  have J0t : Ev (fun k => freshetref05_Sound.j0 k e w true) false := by
    refine Ev.step (f := fun _ => some false) (fun k => ?_) (Ev.now _)
    rw [freshetref05_Sound.j0, if_pos rfl]
  by_cases h0 : (e.length : Int) < 1
  · obtain rfl : e = [] := List.eq_nil_of_length_eq_zero (by omega)
    have : soundE [] w = false := rfl
    rw [this]
    refine Ev.congr (fun k => ?_) J0t
    rw [freshetref05_Sound.f, if_pos h0]
  by_cases hl : (e.length : Int) > 4000
  · have : soundE e w = false := by unfold soundE; rw [decide_eq_false (show ¬ e.length ≤ 4000 by omega), Bool.false_and]
    rw [this]
    refine Ev.congr (fun k => ?_) J0t
    rw [freshetref05_Sound.f, if_neg h0, decide_eq_true hl]
  have hs : soundE e w = decide (mh (takesE w) e 0 = some 1) := by unfold soundE; rw [decide_eq_true (show e.length ≤ 4000 by omega), Bool.true_and]
  rw [hs]
  have main : ∀ n i : Nat, i + n = e.length → ∀ h : Int, 0 ≤ h → h ≤ (i : Int) → Ev (fun k => freshetref05_Sound.l0 k e w h (i : Int)) (decide (mh (takesE w) (e.drop i) h = some 1)) := by
    intro n
    induction n with
    | zero =>
      intro i hi h h0 h1
      rw [List.drop_of_length_le (by omega), mh]
      refine Ev.step (f := fun _ => some _) (fun k => ?_) (Ev.now _)
      rw [freshetref05_Sound.l0, if_neg (by omega)]
      congr 1
      rw [Bool.eq_iff_iff]; simp
    | succ n ih =>
      intro i hi h h0 h1
      have hlt : i < e.length := by omega
      have hrd : rd_T41 e (i : Int) = e[i] := by unfold rd_T41; simp [hlt]
      have htk := rtakes_ev w e[i] (hd _ (List.getElem_mem hlt))
      have ok := takes_ok w e[i]
      rw [List.drop_eq_getElem_cons hlt, mh]
      refine Ev.step (f := fun k => ((freshetref05_takes.f k e[i].f0 e[i].f1 e[i].f2.f0 e[i].f2.f1 e[i].f2.f2 e[i].f2.f3 w).bind fun t104 => (if t104 < 0 then (some false) else (if h < t104 then (some false) else (freshetref05_Sound.l0 k e w (wrap64 ((wrap64 (h - t104)) + 1)) (wrap64 ((i : Int) + 1))))))) (fun k => ?_) (Ev.bind htk ?_)
      · rw [freshetref05_Sound.l0, if_pos (by omega), if_pos (by omega), hrd]
      generalize takesE w e[i] = q at *
      by_cases c1 : q < 0
      · rw [if_pos (.inl c1), show decide ((none : Option Int) = some 1) = false from rfl]
        exact Ev.congr (fun k => if_pos c1) (Ev.now _)
      by_cases c2 : h < q
      · rw [if_pos (.inr c2), show decide ((none : Option Int) = some 1) = false from rfl]
        exact Ev.congr (fun k => by rw [if_neg c1, if_pos c2]) (Ev.now _)
      rw [if_neg (by omega)]
      have hq : q ≤ 2 := by omega
      have e1 : wrap64 (wrap64 (h - q) + 1) = h + 1 - q := by unfold wrap64; omega
      have e2 : wrap64 ((i : Int) + 1) = ((i + 1 : Nat) : Int) := by unfold wrap64; omega
      refine Ev.congr (fun k => ?_) (ih (i + 1) (by omega) (h + 1 - q) (by omega) (by omega))
      rw [if_neg c1, if_neg c2, e1, e2]
  have h := main e.length 0 (by omega) 0 (by omega) (by omega)
  rw [List.drop_zero] at h
  refine Ev.congr (f := fun k => freshetref05_Sound.j0 k e w false) (fun k => ?_) (Ev.step (fun k => ?_) h)
  · rw [freshetref05_Sound.f, if_neg h0, decide_eq_false hl]
  · rw [freshetref05_Sound.j0, if_neg Bool.false_ne_true]; rfl
/-- a kind as the document's struct -/
def toK (x : Knd) : S76 := ⟨x.of_, x.null, x.bad, x.risk⟩
/-- the type of the whole, as the document has it -/
def typed3 (e : List S41) (cols : List S57) : Knd :=
  if soundE e cols.length then (mrun (fun d => d.f0) (kNone cols) kOne3 kTwo3 e []).headD ⟨0, false, true, false⟩ else ⟨0, false, true, false⟩
theorem takes_codes {w : Int} {d : S41} : (takesE w d = 0 → d.f0 = 1 ∨ (d.f0 = 2 ∧ 0 ≤ d.f1 ∧ d.f1 < w)) ∧ (takesE w d = 1 → (3 ≤ d.f0 ∧ d.f0 ≤ 5) ∨ (d.f0 = 6 ∧ 1 ≤ d.f1 ∧ d.f1 ≤ 4)) ∧ (takesE w d = 2 → 10 ≤ d.f0 ∧ d.f0 ≤ 24) := by
  unfold takesE
  split
  · rename_i h
    refine ⟨fun _ => ?_, fun h => absurd h (by decide), fun h => absurd h (by decide)⟩
    rcases h with h | h
    · exact .inl h.1
    · exact .inr h
  · split
    · rename_i h; exact ⟨fun h => absurd h (by decide), fun _ => h, fun h => absurd h (by decide)⟩
    · split
      · rename_i h; exact ⟨fun h => absurd h (by decide), fun h => absurd h (by decide), fun _ => h⟩
      · exact ⟨fun h => absurd h (by decide), fun h => absurd h (by decide), fun h => absurd h (by decide)⟩
theorem rd_rev (x : Knd) (st : List Knd) : rd_T76 (((x :: st).map toK).reverse) ((st.length : Nat) : Int) = toK x := by
  unfold rd_T76
  simp [List.getD_eq_getElem?_getD, List.getElem?_append_right]
theorem rtypes_ev (e : List S41) (cols : List S57) (hd : ∀ d ∈ e, U64 d.f2.f2) : Ev (fun k => freshetref05_types.f k e cols) (kndT (typed3 e cols)) := by
  refine Ev.congr (f := fun k => (freshetref05_Sound.f k e (cols.length : Int)).bind fun t106 => (if t106 = true then (freshetref05_types.l0 k e cols (([] : List (S76))) 0) else (some (0, false, true, false)))) (fun k => rfl) (Ev.bind (rsound_ev e cols.length hd) ?_)
  cases hs : soundE e cols.length
  · have : typed3 e cols = ⟨0, false, true, false⟩ := by unfold typed3; rw [hs]; rfl
    rw [this]
    exact Ev.congr (fun k => if_neg Bool.false_ne_true) (Ev.now _)
  obtain ⟨hl, hm⟩ := soundE_iff.1 hs
  obtain ⟨x, hx, _⟩ := mrun_one (n0 := kNone cols) (n1 := kOne3) (n2 := kTwo3) (takes_ok (cols.length : Int)) hm
  have hT : typed3 e cols = x := by unfold typed3; rw [hs, if_pos rfl, hx]; rfl
  rw [hT]
  have main : ∀ n i : Nat, i + n = e.length → ∀ st : List Knd, (st.length : Int) ≤ (i : Int) → mh (takesE (cols.length : Int)) (e.drop i) (st.length : Int) = some 1 → mrun (fun d => d.f0) (kNone cols) kOne3 kTwo3 (e.drop i) st = [x] →
      Ev (fun k => freshetref05_types.l0 k e cols ((st.map toK).reverse) (i : Int)) (kndT x) := by
    intro n
    induction n with
    | zero =>
      intro i hi st h1 h2 h3
      rw [List.drop_of_length_le (by omega), mrun_nil] at h3
      subst h3
      refine Ev.step (f := fun _ => some _) (fun k => ?_) (Ev.now _)
      rw [freshetref05_types.l0, if_neg (by omega), if_pos (by simp)]
      rfl
    | succ n ih =>
      intro i hi st h1 h2 h3
      have hlt : i < e.length := by omega
      have hrd : rd_T41 e (i : Int) = e[i] := by unfold rd_T41; simp [hlt]
      rw [List.drop_eq_getElem_cons hlt] at h2 h3
      rw [mh] at h2
      rw [mrun_cons] at h3
      have hcl := takes_codes (w := (cols.length : Int)) (d := e[i])
      have htk := rtakes_ev (cols.length : Int) e[i] (hd _ (List.getElem_mem hlt))
      have ok := takes_ok (cols.length : Int) e[i]
      have hw : wrap64 ((i : Int) + 1) = ((i + 1 : Nat) : Int) := by unfold wrap64; omega
      have hL : (((st.map toK).reverse).length : Int) = (st.length : Int) := by simp
      split at h2
      · cases h2
      · rename_i hn
        obtain ⟨f1, f2⟩ := mstep_frame (n0 := kNone cols) (n1 := kOne3) (n2 := kTwo3) (takes_ok (cols.length : Int)) e[i] st [] (by omega) (by omega)
        have nxt := ih (i + 1) (by omega) (mstep (fun d => d.f0) (kNone cols) kOne3 kTwo3 st e[i]) (by omega) (by rw [f2]; exact h2) h3
        refine Ev.step (fun k => by rw [freshetref05_types.l0, if_pos (by omega), if_pos (by omega), hrd, hw]) (Ev.bind htk ?_)
        clear htk f1 f2 h2 h3 ih
        rcases ok with q | ⟨q, q2⟩ | ⟨q, q2, q3⟩ | ⟨q, q2⟩
        · omega
        · rw [q]
          refine Ev.congr (fun k => ?_) nxt
          have e1 : mstep (fun d => d.f0) (kNone cols) kOne3 kTwo3 st e[i] = kNone cols e[i] :: st := by unfold mstep; rw [if_neg (by omega), if_neg (by omega)]
          rw [e1, List.map_cons, List.reverse_cons, if_pos rfl]
          rcases hcl.1 q with c | c
          · rw [if_neg (by omega), if_pos (by rw [hL] at *; simp; omega)]
            have e2 : kNone cols e[i] = ⟨e[i].f2.f0, decide (e[i].f2.f0 = 0), false, false⟩ := if_pos c
            rw [e2]; rfl
          · have e2 : kNone cols e[i] = ⟨(rd_T57 cols e[i].f1).f1, (rd_T57 cols e[i].f1).f2, decide ((rd_T57 cols e[i].f1).f1 < 1) || decide (4 < (rd_T57 cols e[i].f1).f1), false⟩ := if_neg (by omega)
            rw [if_pos c.1, if_pos c.2.1, if_pos c.2.2, e2]
            by_cases c3 : (rd_T57 cols e[i].f1).f1 < 1
            · rw [if_pos c3, if_pos (by first | (simp; done) | (simp; omega)), decide_eq_true c3]; rfl
            · rw [if_neg c3, if_pos (by first | (simp; done) | (simp; omega)), decide_eq_false c3]; rfl
        · rcases st with _ | ⟨a, st⟩
          · simp at hn; omega
          · rw [q]
            refine Ev.congr (fun k => ?_) nxt
            have e1 : mstep (fun d => d.f0) (kNone cols) kOne3 kTwo3 (a :: st) e[i] = kOne3 e[i] a :: st := by unfold mstep; rw [if_neg (by omega), if_pos q2]
            have hc : 3 ≤ e[i].f0 ∧ e[i].f0 ≤ 6 := by rcases hcl.2.1 q with c | c <;> omega
            have e3 : wrap64 ((((a :: st).map toK).reverse.length : Int) - 1) = ((st.length : Nat) : Int) := by simp; unfold wrap64; simp at h1; omega
            have e4 : ∀ z, ((((a :: st).map toK).reverse).set st.length z) = ((st.map toK).reverse) ++ [z] := fun z => by
              rw [List.map_cons, List.reverse_cons, List.set_append_right _ _ (by simp)]; simp
            rw [e1, if_neg (by decide), if_pos rfl, e3, if_pos (by omega), if_pos (by first | (simp; done) | (simp; omega)), rd_rev]
            rw [show xrOne.f e[i].f0 e[i].f1 e[i].f2.f0 e[i].f2.f1 e[i].f2.f2 e[i].f2.f3 (toK a).f0 (toK a).f1 (toK a).f2 (toK a).f3 = some (kndT (kOne3 e[i] a)) from if_pos hc]
            simp only [Option.bind_some, Int.toNat_natCast]
            rw [e4, List.map_cons, List.reverse_cons]; rfl
        · rcases st with _ | ⟨b, _ | ⟨a, st⟩⟩
          · simp at hn; omega
          · simp at hn; omega
          · rw [q]
            refine Ev.congr (fun k => ?_) nxt
            have e1 : mstep (fun d => d.f0) (kNone cols) kOne3 kTwo3 (b :: a :: st) e[i] = kTwo3 e[i] a b :: st := by unfold mstep; rw [if_pos q2]
            have hc : 10 ≤ e[i].f0 ∧ e[i].f0 ≤ 24 := hcl.2.2 q
            have e3 : wrap64 ((((b :: a :: st).map toK).reverse.length : Int) - 1) = (((a :: st).length : Nat) : Int) := by simp; unfold wrap64; simp at h1; omega
            have e5 : wrap64 ((((b :: a :: st).map toK).reverse.length : Int) - 2) = ((st.length : Nat) : Int) := by simp; unfold wrap64; simp at h1; omega
            have e6 : rd_T76 (((b :: a :: st).map toK).reverse) ((st.length : Nat) : Int) = toK a := by
              unfold rd_T76
              simp [List.getD_eq_getElem?_getD, List.getElem?_append_right, List.getElem?_append_left]
            have e7 : (((b :: a :: st).map toK).reverse).take (a :: st).length = ((a :: st).map toK).reverse := by
              rw [List.map_cons, List.reverse_cons, List.take_append_of_le_length (by simp), List.take_of_length_le (by simp)]
            have e4 : ∀ z, ((((a :: st).map toK).reverse).set st.length z) = ((st.map toK).reverse) ++ [z] := fun z => by
              rw [List.map_cons, List.reverse_cons, List.set_append_right _ _ (by simp)]; simp
            rw [e1, if_neg (by decide), if_neg (by decide), e3, e5, if_pos (by omega), if_pos (by first | (simp; done) | (simp; omega)), if_pos (by omega), if_pos (by first | (simp; done) | (simp; omega)), e6, rd_rev]
            rw [show xrTwo.f e[i].f0 e[i].f1 e[i].f2.f0 e[i].f2.f1 e[i].f2.f2 e[i].f2.f3 (toK a).f0 (toK a).f1 (toK a).f2 (toK a).f3 (toK b).f0 (toK b).f1 (toK b).f2 (toK b).f3 = some (kndT (kTwo3 e[i] a b)) from if_pos hc]
            simp only [Option.bind_some, Int.toNat_natCast]
            rw [if_pos (by simp), e7, if_pos (by first | (simp; done) | (simp; omega)), e4, List.map_cons, List.reverse_cons]; rfl
  have h := main e.length 0 (by omega) [] (by simp) (by rw [List.drop_zero]; exact hm) (by rw [List.drop_zero]; exact hx)
  exact Ev.congr (fun k => if_pos rfl) h
end Go.Proofs.YtakcjiinchghaaaGreatDoor
end
