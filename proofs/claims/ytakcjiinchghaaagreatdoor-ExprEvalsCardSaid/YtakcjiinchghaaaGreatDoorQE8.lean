/- a part of the claim: what the card leans on, out of the texts E6, EK4, EK5, EM1, EM2, ES1, EVW, VR4m, VZ2e, XZe, EC1, EC2, EV2 (put together by wip/tools/shake.py). -/
import Derived.Test.YtakcjiinchghaaaGreatDoorQE1
import Derived.Test.YtakcjiinchghaaaGreatDoorQE2
import Derived.Test.YtakcjiinchghaaaGreatDoorQE4
import Derived.Test.YtakcjiinchghaaaGreatDoorQE5
import Derived.Test.YtakcjiinchghaaaGreatDoorQE6
import Derived.Test.YtakcjiinchghaaaGreatDoorQE7
import Derived.RegionTactic
import Derived.BigRegion
import Derived.Laws.Externs
import Derived.Laws.BitsLemmas
import Derived.Lib.SliceRun
import Derived.Deep.RegionHeld3
import Derived.Sort.OwnSortedInts
import Derived.Laws.FloatArith
section
namespace Go.Proofs.YtakcjiinchghaaaGreatDoor
set_option linter.unusedVariables false
set_option linter.unusedSimpArgs false
open Go.RowKit Go.Proofs.YtakcjiinchghaaaGreatDoorW.PrintWords Go.Proofs.YtakcjiinchghaaaGreatDoorW.PrintLast PRW
theorem takes_ev (w : Int) (d : S41) (hd : I64 d.f2.f1) : Ev (fun k=>expr_takes.f k d.f0 d.f1 d.f2.f0 d.f2.f1 d.f2.f2 d.f2.f3 w) (takesE w d):=by
 have j3 : ∀ b : Bool,Ev (fun k=>expr_takes.j3 k b d.f0 d.f1 d.f2.f0 d.f2.f1 d.f2.f2 d.f2.f3) (if b = true then 1 else if 10 ≤ d.f0 ∧ d.f0 ≤ 24 then 2 else -1):=fun b=>by
  refine Ev.step (f:=fun _=>some _) (fun k=>?_) (Ev.now _)
  rw [expr_takes.j3]
  cases b
  ·rw [if_neg Bool.false_ne_true,if_neg Bool.false_ne_true]
   by_cases h1 : d.f0 ≥ 10
   ·by_cases h2 : d.f0 ≤ 24
    ·rw [if_pos h1,if_pos h2,if_pos ⟨h1,h2⟩]
    ·rw [if_pos h1,if_neg h2,if_neg (fun h=>h2 h.2)]
   ·rw [if_neg h1,if_neg (fun h=>h1 h.1)]
  ·rw [if_pos rfl,if_pos rfl]
 have j2 : ∀ b : Bool,Ev (fun k=>expr_takes.j2 k b d.f0 d.f1 d.f2.f0 d.f2.f1 d.f2.f2 d.f2.f3) (if b = true ∨ (d.f0 = 6 ∧ 1 ≤ d.f1 ∧ d.f1 ≤ 4) then 1 else if 10 ≤ d.f0 ∧ d.f0 ≤ 24 then 2 else -1):=fun b=>by
  cases b
  ·have h0:=j3 (decide (d.f0 = 6 ∧ 1 ≤ d.f1 ∧ d.f1 ≤ 4))
   simp only [decide_eq_true_eq] at h0
   simp only [Bool.false_eq_true,false_or]
   refine Ev.step (fun k=>?_) h0
   rw [expr_takes.j2,if_neg Bool.false_ne_true]
   by_cases h1 : d.f0 = 6
   ·by_cases h2 : d.f1 ≥ 1
    ·rw [if_pos h1,if_pos h2]
     have : decide (d.f1 ≤ 4) = decide (d.f0 = 6 ∧ 1 ≤ d.f1 ∧ d.f1 ≤ 4):=decide_eq_decide.2 ⟨fun h=>⟨h1,h2,h⟩,fun h=>h.2.2⟩
     rw [this]
    ·rw [if_pos h1,if_neg h2,decide_eq_false (fun h=>h2 h.2.1)]
   ·rw [if_neg h1,decide_eq_false (fun h=>h1 h.1)]
  ·have h0:=j3 true
   rw [if_pos rfl] at h0
   rw [if_pos (.inl rfl)]
   refine Ev.step (fun k=>?_) h0
   rw [expr_takes.j2,if_pos rfl]
 have j1 : ∀ b : Bool,Ev (fun k=>expr_takes.j1 k b d.f0 d.f1 d.f2.f0 d.f2.f1 d.f2.f2 d.f2.f3) (if b = true then 0 else if (3 ≤ d.f0 ∧ d.f0 ≤ 5) ∨ (d.f0 = 6 ∧ 1 ≤ d.f1 ∧ d.f1 ≤ 4) then 1 else if 10 ≤ d.f0 ∧ d.f0 ≤ 24 then 2 else -1):=fun b=>by
  cases b
  ·have h0:=j2 (decide (3 ≤ d.f0 ∧ d.f0 ≤ 5))
   simp only [decide_eq_true_eq] at h0
   rw [if_neg Bool.false_ne_true]
   refine Ev.step (fun k=>?_) h0
   rw [expr_takes.j1,if_neg Bool.false_ne_true]
   by_cases h1 : d.f0 ≥ 3
   ·rw [if_pos h1]
    have : decide (d.f0 ≤ 5) = decide (3 ≤ d.f0 ∧ d.f0 ≤ 5):=decide_eq_decide.2 ⟨fun h=>⟨h1,h⟩,fun h=>h.2⟩
    rw [this]
   ·rw [if_neg h1,decide_eq_false (fun h=>h1 h.1)]
  ·rw [if_pos rfl]
   refine Ev.step (f:=fun _=>some 0) (fun k=>?_) (Ev.now _)
   rw [expr_takes.j1,if_pos rfl]
 have j0 : ∀ b : Bool,Ev (fun k=>expr_takes.j0 k w b d.f0 d.f1 d.f2.f0 d.f2.f1 d.f2.f2 d.f2.f3) (if b = true ∨ (d.f0 = 2 ∧ 0 ≤ d.f1 ∧ d.f1 < w) then 0 else if (3 ≤ d.f0 ∧ d.f0 ≤ 5) ∨ (d.f0 = 6 ∧ 1 ≤ d.f1 ∧ d.f1 ≤ 4) then 1 else if 10 ≤ d.f0 ∧ d.f0 ≤ 24 then 2 else -1):=fun b=>by
  cases b
  ·have h0:=j1 (decide (d.f0 = 2 ∧ 0 ≤ d.f1 ∧ d.f1 < w))
   simp only [decide_eq_true_eq] at h0
   simp only [Bool.false_eq_true,false_or]
   refine Ev.step (fun k=>?_) h0
   rw [expr_takes.j0,if_neg Bool.false_ne_true]
   by_cases h1 : d.f0 = 2
   ·by_cases h2 : d.f1 ≥ 0
    ·rw [if_pos h1,if_pos h2]
     have : decide (d.f1 < w) = decide (d.f0 = 2 ∧ 0 ≤ d.f1 ∧ d.f1 < w):=decide_eq_decide.2 ⟨fun h=>⟨h1,h2,h⟩,fun h=>h.2.2⟩
     rw [this]
    ·rw [if_pos h1,if_neg h2,decide_eq_false (fun h=>h2 h.2.1)]
   ·rw [if_neg h1,decide_eq_false (fun h=>h1 h.1)]
  ·have h0:=j1 true
   rw [if_pos rfl] at h0
   rw [if_pos (.inl rfl)]
   refine Ev.step (fun k=>?_) h0
   rw [expr_takes.j0,if_pos rfl]
 unfold takesE
 by_cases h1 : d.f0 = 1
 ·have h0:=j0 (soundV d.f2.f0 d.f2.f1 d.f2.f2 d.f2.f3)
  have e1 : ((d.f0 = 1 ∧ soundV d.f2.f0 d.f2.f1 d.f2.f2 d.f2.f3 = true) ∨ (d.f0 = 2 ∧ 0 ≤ d.f1 ∧ d.f1 < w)) = (soundV d.f2.f0 d.f2.f1 d.f2.f2 d.f2.f3 = true ∨ (d.f0 = 2 ∧ 0 ≤ d.f1 ∧ d.f1 < w)):=by simp [h1]
  simp only [e1]
  refine Ev.congr (fun k=>?_) h0
  rw [expr_takes.f,if_pos h1,xSound.f,if_pos (show -9223372036854775808 ≤ d.f2.f1 ∧ d.f2.f1 ≤ 9223372036854775807 from hd)];rfl
 ·have h0:=j0 false
  have e1 : ((d.f0 = 1 ∧ soundV d.f2.f0 d.f2.f1 d.f2.f2 d.f2.f3 = true) ∨ (d.f0 = 2 ∧ 0 ≤ d.f1 ∧ d.f1 < w)) = (false = true ∨ (d.f0 = 2 ∧ 0 ≤ d.f1 ∧ d.f1 < w)):=by simp [h1]
  simp only [e1]
  exact Ev.congr (fun k=>by rw [expr_takes.f,if_neg h1]) h0
theorem w64n {n : Int} (h0 : -9223372036854775808 ≤ n) (h1 : n ≤ 9223372036854775807) : wrap64 n = n:=by unfold wrap64;omega
theorem esound_ev (e : List S41) (w : Int) (hd : ∀ d ∈ e,I64 d.f2.f1) : Ev (fun k=>expr_Sound.f k e w) (soundE e w):=by
 unfold soundE
 by_cases hl : (e.length : Int) > 4000
 ·rw [decide_eq_false (show ¬ e.length ≤ 4000 by omega),Bool.false_and]
  exact Ev.congr (fun k=>by rw [expr_Sound.f,if_pos hl]) (Ev.now _)
 ·rw [decide_eq_true (show e.length ≤ 4000 by omega),Bool.true_and]
  have main : ∀ n i : Nat,i + n = e.length → ∀ h : Int,0 ≤ h → h ≤ (i : Int) → Ev (fun k=>expr_Sound.l0 k w h e (e.length : Int) (i : Int)) (decide (mh (takesE w) (e.drop i) h = some 1)):=by
   intro n
   induction n with
   | zero =>
    intro i hi h h0 h1
    rw [List.drop_of_length_le (by omega),mh]
    refine Ev.step (f:=fun _=>some _) (fun k=>?_) (Ev.now _)
    rw [expr_Sound.l0,if_neg (by omega)]
    congr 1
    rw [Bool.eq_iff_iff];simp
   | succ n ih =>
    intro i hi h h0 h1
    have hlt : i < e.length:=by omega
    have hrd : rd_T41 e (i : Int) = e[i]:=by unfold rd_T41;simp [hlt]
    have htk:=takes_ev w e[i] (hd _ (List.getElem_mem hlt))
    have ok:=takes_ok w e[i]
    rw [List.drop_eq_getElem_cons hlt,mh]
    have top : ∀ k,expr_Sound.l0 (k + 1) w h e (e.length : Int) (i : Int) = ((expr_takes.f k e[i].f0 e[i].f1 e[i].f2.f0 e[i].f2.f1 e[i].f2.f2 e[i].f2.f3 w).bind fun t105=>(if t105 < 0 then (some false) else (if t105 > h then (some false) else (expr_Sound.l0 k w (wrap64 (h + (wrap64 (1 - t105)))) e (e.length : Int) (wrap64 ((i : Int) + 1)))))):=fun k=>by
     rw [expr_Sound.l0,if_pos (by omega),if_pos (by omega),if_pos (by omega),hrd]
    refine Ev.step top (Ev.bind htk ?_)
    generalize takesE w e[i] = q at *
    by_cases c1 : q < 0
    ·rw [if_pos (.inl c1),show decide ((none : Option Int) = some 1) = false from rfl]
     exact Ev.congr (fun k=>if_pos c1) (Ev.now _)
    by_cases c2 : h < q
    ·rw [if_pos (.inr c2),show decide ((none : Option Int) = some 1) = false from rfl]
     exact Ev.congr (fun k=>by rw [if_neg c1,if_pos (show q > h from c2)]) (Ev.now _)
    rw [if_neg (by omega)]
    have hq : q ≤ 2:=by omega
    refine Ev.congr (fun k=>?_) (ih (i + 1) (by omega) (h + 1 - q) (by omega) (by omega))
    rw [if_neg c1,if_neg (by omega),w64n (n:=1 - q) (by omega) (by omega),w64n (n:=h + (1 - q)) (by omega) (by omega),w64n (n:=(i : Int) + 1) (by omega) (by omega),show h + (1 - q) = h + 1 - q by omega];rfl
  have h:=main e.length 0 (by omega) 0 (by omega) (by omega)
  rw [List.drop_zero] at h
  exact Ev.congr (fun k=>by rw [expr_Sound.f,if_neg hl];rfl) h
theorem esound_c (A : Option Addr) (c : Nat) (e : List S41) (w : Int) (W : World) (hC : Kd.C k41 W A e.length e) (hc : e.length ≤ c) (hd : ∀ d ∈ e,I64 d.f2.f1) :
  Calls Tryz.prog 13 #[.slice A e.length c,.int .i64 w] W fun en w'=>en = .returned (.bool (soundE e w)) ∧ Below W.heap.size W w':=by
 obtain ⟨k,hk⟩:=esound_ev e w hd
 exact expr_Sound.calls k A c e w _ W hC hc (hk k (Nat.le_refl _))
set_option maxRecDepth 100000 in
set_option maxHeartbeats 8000000 in
theorem eval_c (A : Option Addr) (c : Nat) (e : List S41) (A' : Option Addr) (c' : Nat) (r : List S29) (w : World) (hC : Kd.C k41 w A e.length e) (hc : e.length ≤ c) (hC' : Kd.C k29 w A' r.length r) (ht : Tab w)
    (hd : ∀ d ∈ e,I64 d.f2.f1) (hr : ∀ x ∈ r,I64 x.f1) :
    Calls Tryz.prog 11 #[.slice A e.length c,.slice A' r.length c'] w fun en w'=>en = .returned (.tuple #[.agg #[.int .i64 (evalE e r).v.f0,.int .i64 (evalE e r).v.f1,.int .u64 (evalE e r).v.f2,.string (evalE e r).v.f3],.int .i64 (evalE e r).e]) ∧ Below w.heap.size w w':=by
  have RS:=hidF (fun W (hb : Below w.heap.size w W)=>rowSound_c A' c' r W (Kd.C_below hC' hb) hr)
  have ES:=hidF (fun W (hb : Below w.heap.size w W)=>esound_c A c e (r.length : Int) W (Kd.C_below hC hb) hc hd)
  cases s1 : soundL r
  · have hE : evalE e r = ⟨zV,1⟩:=by unfold evalE;rw [s1];rfl
    rw [hE]
    rw [s1] at RS
    clear hC hC' hd hr ht hc s1 hE
    go_enter Tryz.func11,Tryz.ntmps11
    go_wp2_with (first | (go_at_call 30;(fail_if_success (have:=w1));((with_reducible refine (RS.out _ (by repeat (first | (with_reducible exact Below.refl _ _) | (with_reducible refine below_al ?_ _) | (with_reducible refine below_drewN ?_ _) | (with_reducible refine Below.drew ?_) | (with_reducible refine below_via (by assumption) ?_) | (with_reducible refine below_sc ?_ ?_ _;· (first | (simp;done) | (simp;omega) | omega))))).mono ?_);rintro e w1 ⟨rfl,hb1⟩;(try (replace hb1:=below_undrew hb1));(try (replace hb1:=below_undrewN hb1));obtain ⟨hc1,hf1⟩:=bcell hb1;(try (have hz0_1 : w.heap.size < w1.heap.size:=(by have:=hb1.size;(try simp at this);omega)));(try (have hz1_1 : w.heap.size + 1 < w1.heap.size:=(by have:=hb1.size;(try simp at this);omega))))) | (go_at_call 30;(fail_if_success (have:=w2));((with_reducible refine (RS.out _ (by repeat (first | (with_reducible exact Below.refl _ _) | (with_reducible refine below_al ?_ _) | (with_reducible refine below_drewN ?_ _) | (with_reducible refine Below.drew ?_) | (with_reducible refine below_via (by assumption) ?_) | (with_reducible refine below_sc ?_ ?_ _;· (first | (simp;done) | (simp;omega) | omega))))).mono ?_);rintro e w2 ⟨rfl,hb2⟩;(try (replace hb2:=below_undrew hb2));(try (replace hb2:=below_undrewN hb2));obtain ⟨hc2,hf2⟩:=bcell hb2;(try (have hz0_2 : w.heap.size < w2.heap.size:=(by have:=hb2.size;(try simp at this);omega)));(try (have hz1_2 : w.heap.size + 1 < w2.heap.size:=(by have:=hb2.size;(try simp at this);omega)));(try (have hz_1_2 : w1.heap.size < w2.heap.size:=(by have:=hb2.size;(try simp at this);omega))))))
    exact bodyPost_ret (v:=.tuple #[.agg #[.int .i64 0,.int .i64 0,.int .u64 0,.string ⟨#[]⟩],.int .i64 1]) (by simp [results,Tryz.results11,go_sem, *]) rfl ⟨rfl,(by repeat (first | (with_reducible exact Below.refl _ _) | (with_reducible refine below_al ?_ _) | (with_reducible refine below_drewN ?_ _) | (with_reducible refine Below.drew ?_) | (with_reducible refine below_via (by assumption) ?_) | (with_reducible refine below_sc ?_ ?_ _;· (first | (simp;done) | (simp;omega) | omega))))⟩
  · cases s2 : soundE e (r.length : Int)
    · have hE : evalE e r = ⟨zV,1⟩:=by unfold evalE;rw [s1,s2];rfl
      rw [hE]
      rw [s1] at RS
      rw [s2] at ES
      clear hC hC' hd hr ht hc s1 s2 hE
      go_enter Tryz.func11,Tryz.ntmps11
      go_wp2_with (first | (go_at_call 30;(fail_if_success (have:=w1));((with_reducible refine (RS.out _ (by repeat (first | (with_reducible exact Below.refl _ _) | (with_reducible refine below_al ?_ _) | (with_reducible refine below_drewN ?_ _) | (with_reducible refine Below.drew ?_) | (with_reducible refine below_via (by assumption) ?_) | (with_reducible refine below_sc ?_ ?_ _;· (first | (simp;done) | (simp;omega) | omega))))).mono ?_);rintro e w1 ⟨rfl,hb1⟩;(try (replace hb1:=below_undrew hb1));(try (replace hb1:=below_undrewN hb1));obtain ⟨hc1,hf1⟩:=bcell hb1;(try (have hz0_1 : w.heap.size < w1.heap.size:=(by have:=hb1.size;(try simp at this);omega)));(try (have hz1_1 : w.heap.size + 1 < w1.heap.size:=(by have:=hb1.size;(try simp at this);omega))))) | (go_at_call 13;(fail_if_success (have:=w1));((with_reducible refine (ES.out _ (by repeat (first | (with_reducible exact Below.refl _ _) | (with_reducible refine below_al ?_ _) | (with_reducible refine below_drewN ?_ _) | (with_reducible refine Below.drew ?_) | (with_reducible refine below_via (by assumption) ?_) | (with_reducible refine below_sc ?_ ?_ _;· (first | (simp;done) | (simp;omega) | omega))))).mono ?_);rintro e w1 ⟨rfl,hb1⟩;(try (replace hb1:=below_undrew hb1));(try (replace hb1:=below_undrewN hb1));obtain ⟨hc1,hf1⟩:=bcell hb1;(try (have hz0_1 : w.heap.size < w1.heap.size:=(by have:=hb1.size;(try simp at this);omega)));(try (have hz1_1 : w.heap.size + 1 < w1.heap.size:=(by have:=hb1.size;(try simp at this);omega))))) | (go_at_call 30;(fail_if_success (have:=w2));((with_reducible refine (RS.out _ (by repeat (first | (with_reducible exact Below.refl _ _) | (with_reducible refine below_al ?_ _) | (with_reducible refine below_drewN ?_ _) | (with_reducible refine Below.drew ?_) | (with_reducible refine below_via (by assumption) ?_) | (with_reducible refine below_sc ?_ ?_ _;· (first | (simp;done) | (simp;omega) | omega))))).mono ?_);rintro e w2 ⟨rfl,hb2⟩;(try (replace hb2:=below_undrew hb2));(try (replace hb2:=below_undrewN hb2));obtain ⟨hc2,hf2⟩:=bcell hb2;(try (have hz0_2 : w.heap.size < w2.heap.size:=(by have:=hb2.size;(try simp at this);omega)));(try (have hz1_2 : w.heap.size + 1 < w2.heap.size:=(by have:=hb2.size;(try simp at this);omega)));(try (have hz_1_2 : w1.heap.size < w2.heap.size:=(by have:=hb2.size;(try simp at this);omega))))) | (go_at_call 13;(fail_if_success (have:=w2));((with_reducible refine (ES.out _ (by repeat (first | (with_reducible exact Below.refl _ _) | (with_reducible refine below_al ?_ _) | (with_reducible refine below_drewN ?_ _) | (with_reducible refine Below.drew ?_) | (with_reducible refine below_via (by assumption) ?_) | (with_reducible refine below_sc ?_ ?_ _;· (first | (simp;done) | (simp;omega) | omega))))).mono ?_);rintro e w2 ⟨rfl,hb2⟩;(try (replace hb2:=below_undrew hb2));(try (replace hb2:=below_undrewN hb2));obtain ⟨hc2,hf2⟩:=bcell hb2;(try (have hz0_2 : w.heap.size < w2.heap.size:=(by have:=hb2.size;(try simp at this);omega)));(try (have hz1_2 : w.heap.size + 1 < w2.heap.size:=(by have:=hb2.size;(try simp at this);omega)));(try (have hz_1_2 : w1.heap.size < w2.heap.size:=(by have:=hb2.size;(try simp at this);omega))))))
      exact bodyPost_ret (v:=.tuple #[.agg #[.int .i64 0,.int .i64 0,.int .u64 0,.string ⟨#[]⟩],.int .i64 1]) (by simp [results,Tryz.results11,go_sem, *]) rfl ⟨rfl,(by repeat (first | (with_reducible exact Below.refl _ _) | (with_reducible refine below_al ?_ _) | (with_reducible refine below_drewN ?_ _) | (with_reducible refine Below.drew ?_) | (with_reducible refine below_via (by assumption) ?_) | (with_reducible refine below_sc ?_ ?_ _;· (first | (simp;done) | (simp;omega) | omega))))⟩
    · obtain ⟨x,hx,_⟩:=runC_one r s2
      have hE : evalE e r = x:=by unfold evalE;rw [s1,s2];simp [hx]
      rw [hE]
      have RN : Hid (∀ rb W,Below w.heap.size w W → W.cell? ⟨rb,0,none⟩ = some (.slice A' r.length c') → Calls Tryz.prog 37 #[.slice A e.length c,.func (.func 31) #[] #[.pointer (some ⟨rb,0,none⟩)],.func (.func 32) #[] #[],.func (.func 34) #[] #[]] W fun en w'=>en = .returned (.agg #[.int .i64 x.v.f0,.int .i64 x.v.f1,.int .u64 x.v.f2,.string x.v.f3,.int .i64 x.e]) ∧ Below W.heap.size W w'):=hidF fun rb W hb hcell =>
        runC_c rb r A c e W (Kd.C_below hC hb) (soundE_iff.1 s2).1 (soundE_iff.1 s2).2
          ⟨fun W2 d hb2 h2=>eval1_c rb A' c' r d W2 ((hb2.cell (p:=⟨rb,0,none⟩) (World.block_lt_of_cell? W _ hcell)).trans hcell) (Kd.C_below (Kd.C_below hC' hb) hb2) h2,
           fun W2 d a hb2 hg=>eval2_c d a W2 ((ht.below hb).below hb2) hg,
           fun W2 d a b hg hg'=>eval3_c d a b W2 hg hg'⟩ hr hd x hx
      rw [s1] at RS
      rw [s2] at ES
      obtain ⟨⟨x0,x1,x2,x3⟩,xe⟩:=x
      simp only at RN ⊢
      clear hC hC' hd hr ht hc s1 s2 hE hx
      go_enter Tryz.func11,Tryz.ntmps11
      go_wp2_with (first | (go_at_call 30;(fail_if_success (have:=w1));((with_reducible refine (RS.out _ (by repeat (first | (with_reducible exact Below.refl _ _) | (with_reducible refine below_al ?_ _) | (with_reducible refine below_drewN ?_ _) | (with_reducible refine Below.drew ?_) | (with_reducible refine below_via (by assumption) ?_) | (with_reducible refine below_sc ?_ ?_ _;· (first | (simp;done) | (simp;omega) | omega))))).mono ?_);rintro e w1 ⟨rfl,hb1⟩;(try (replace hb1:=below_undrew hb1));(try (replace hb1:=below_undrewN hb1));obtain ⟨hc1,hf1⟩:=bcell hb1;(try (have hz0_1 : w.heap.size < w1.heap.size:=(by have:=hb1.size;(try simp at this);omega)));(try (have hz1_1 : w.heap.size + 1 < w1.heap.size:=(by have:=hb1.size;(try simp at this);omega))))) | (go_at_call 13;(fail_if_success (have:=w1));((with_reducible refine (ES.out _ (by repeat (first | (with_reducible exact Below.refl _ _) | (with_reducible refine below_al ?_ _) | (with_reducible refine below_drewN ?_ _) | (with_reducible refine Below.drew ?_) | (with_reducible refine below_via (by assumption) ?_) | (with_reducible refine below_sc ?_ ?_ _;· (first | (simp;done) | (simp;omega) | omega))))).mono ?_);rintro e w1 ⟨rfl,hb1⟩;(try (replace hb1:=below_undrew hb1));(try (replace hb1:=below_undrewN hb1));obtain ⟨hc1,hf1⟩:=bcell hb1;(try (have hz0_1 : w.heap.size < w1.heap.size:=(by have:=hb1.size;(try simp at this);omega)));(try (have hz1_1 : w.heap.size + 1 < w1.heap.size:=(by have:=hb1.size;(try simp at this);omega))))) | (go_at_call 37;(fail_if_success (have:=w1));((with_reducible refine (RN.out _ _ (by repeat (first | (with_reducible exact Below.refl _ _) | (with_reducible refine below_al ?_ _) | (with_reducible refine below_drewN ?_ _) | (with_reducible refine Below.drew ?_) | (with_reducible refine below_via (by assumption) ?_) | (with_reducible refine below_sc ?_ ?_ _;· (first | (simp;done) | (simp;omega) | omega)))) (by simp [go_sem, *])).mono ?_);rintro e w1 ⟨rfl,hb1⟩;(try (replace hb1:=below_undrew hb1));(try (replace hb1:=below_undrewN hb1));obtain ⟨hc1,hf1⟩:=bcell hb1;(try (have hz0_1 : w.heap.size < w1.heap.size:=(by have:=hb1.size;(try simp at this);omega)));(try (have hz1_1 : w.heap.size + 1 < w1.heap.size:=(by have:=hb1.size;(try simp at this);omega))))) | (go_at_call 30;(fail_if_success (have:=w2));((with_reducible refine (RS.out _ (by repeat (first | (with_reducible exact Below.refl _ _) | (with_reducible refine below_al ?_ _) | (with_reducible refine below_drewN ?_ _) | (with_reducible refine Below.drew ?_) | (with_reducible refine below_via (by assumption) ?_) | (with_reducible refine below_sc ?_ ?_ _;· (first | (simp;done) | (simp;omega) | omega))))).mono ?_);rintro e w2 ⟨rfl,hb2⟩;(try (replace hb2:=below_undrew hb2));(try (replace hb2:=below_undrewN hb2));obtain ⟨hc2,hf2⟩:=bcell hb2;(try (have hz0_2 : w.heap.size < w2.heap.size:=(by have:=hb2.size;(try simp at this);omega)));(try (have hz1_2 : w.heap.size + 1 < w2.heap.size:=(by have:=hb2.size;(try simp at this);omega)));(try (have hz_1_2 : w1.heap.size < w2.heap.size:=(by have:=hb2.size;(try simp at this);omega))))) | (go_at_call 13;(fail_if_success (have:=w2));((with_reducible refine (ES.out _ (by repeat (first | (with_reducible exact Below.refl _ _) | (with_reducible refine below_al ?_ _) | (with_reducible refine below_drewN ?_ _) | (with_reducible refine Below.drew ?_) | (with_reducible refine below_via (by assumption) ?_) | (with_reducible refine below_sc ?_ ?_ _;· (first | (simp;done) | (simp;omega) | omega))))).mono ?_);rintro e w2 ⟨rfl,hb2⟩;(try (replace hb2:=below_undrew hb2));(try (replace hb2:=below_undrewN hb2));obtain ⟨hc2,hf2⟩:=bcell hb2;(try (have hz0_2 : w.heap.size < w2.heap.size:=(by have:=hb2.size;(try simp at this);omega)));(try (have hz1_2 : w.heap.size + 1 < w2.heap.size:=(by have:=hb2.size;(try simp at this);omega)));(try (have hz_1_2 : w1.heap.size < w2.heap.size:=(by have:=hb2.size;(try simp at this);omega))))) | (go_at_call 37;(fail_if_success (have:=w2));((with_reducible refine (RN.out _ _ (by repeat (first | (with_reducible exact Below.refl _ _) | (with_reducible refine below_al ?_ _) | (with_reducible refine below_drewN ?_ _) | (with_reducible refine Below.drew ?_) | (with_reducible refine below_via (by assumption) ?_) | (with_reducible refine below_sc ?_ ?_ _;· (first | (simp;done) | (simp;omega) | omega)))) (by simp [go_sem, *])).mono ?_);rintro e w2 ⟨rfl,hb2⟩;(try (replace hb2:=below_undrew hb2));(try (replace hb2:=below_undrewN hb2));obtain ⟨hc2,hf2⟩:=bcell hb2;(try (have hz0_2 : w.heap.size < w2.heap.size:=(by have:=hb2.size;(try simp at this);omega)));(try (have hz1_2 : w.heap.size + 1 < w2.heap.size:=(by have:=hb2.size;(try simp at this);omega)));(try (have hz_1_2 : w1.heap.size < w2.heap.size:=(by have:=hb2.size;(try simp at this);omega))))) | (go_at_call 30;(fail_if_success (have:=w3));((with_reducible refine (RS.out _ (by repeat (first | (with_reducible exact Below.refl _ _) | (with_reducible refine below_al ?_ _) | (with_reducible refine below_drewN ?_ _) | (with_reducible refine Below.drew ?_) | (with_reducible refine below_via (by assumption) ?_) | (with_reducible refine below_sc ?_ ?_ _;· (first | (simp;done) | (simp;omega) | omega))))).mono ?_);rintro e w3 ⟨rfl,hb3⟩;(try (replace hb3:=below_undrew hb3));(try (replace hb3:=below_undrewN hb3));obtain ⟨hc3,hf3⟩:=bcell hb3;(try (have hz0_3 : w.heap.size < w3.heap.size:=(by have:=hb3.size;(try simp at this);omega)));(try (have hz1_3 : w.heap.size + 1 < w3.heap.size:=(by have:=hb3.size;(try simp at this);omega)));(try (have hz_1_3 : w1.heap.size < w3.heap.size:=(by have:=hb3.size;(try simp at this);omega)));(try (have hz_2_3 : w2.heap.size < w3.heap.size:=(by have:=hb3.size;(try simp at this);omega))))) | (go_at_call 13;(fail_if_success (have:=w3));((with_reducible refine (ES.out _ (by repeat (first | (with_reducible exact Below.refl _ _) | (with_reducible refine below_al ?_ _) | (with_reducible refine below_drewN ?_ _) | (with_reducible refine Below.drew ?_) | (with_reducible refine below_via (by assumption) ?_) | (with_reducible refine below_sc ?_ ?_ _;· (first | (simp;done) | (simp;omega) | omega))))).mono ?_);rintro e w3 ⟨rfl,hb3⟩;(try (replace hb3:=below_undrew hb3));(try (replace hb3:=below_undrewN hb3));obtain ⟨hc3,hf3⟩:=bcell hb3;(try (have hz0_3 : w.heap.size < w3.heap.size:=(by have:=hb3.size;(try simp at this);omega)));(try (have hz1_3 : w.heap.size + 1 < w3.heap.size:=(by have:=hb3.size;(try simp at this);omega)));(try (have hz_1_3 : w1.heap.size < w3.heap.size:=(by have:=hb3.size;(try simp at this);omega)));(try (have hz_2_3 : w2.heap.size < w3.heap.size:=(by have:=hb3.size;(try simp at this);omega))))) | (go_at_call 37;(fail_if_success (have:=w3));((with_reducible refine (RN.out _ _ (by repeat (first | (with_reducible exact Below.refl _ _) | (with_reducible refine below_al ?_ _) | (with_reducible refine below_drewN ?_ _) | (with_reducible refine Below.drew ?_) | (with_reducible refine below_via (by assumption) ?_) | (with_reducible refine below_sc ?_ ?_ _;· (first | (simp;done) | (simp;omega) | omega)))) (by simp [go_sem, *])).mono ?_);rintro e w3 ⟨rfl,hb3⟩;(try (replace hb3:=below_undrew hb3));(try (replace hb3:=below_undrewN hb3));obtain ⟨hc3,hf3⟩:=bcell hb3;(try (have hz0_3 : w.heap.size < w3.heap.size:=(by have:=hb3.size;(try simp at this);omega)));(try (have hz1_3 : w.heap.size + 1 < w3.heap.size:=(by have:=hb3.size;(try simp at this);omega)));(try (have hz_1_3 : w1.heap.size < w3.heap.size:=(by have:=hb3.size;(try simp at this);omega)));(try (have hz_2_3 : w2.heap.size < w3.heap.size:=(by have:=hb3.size;(try simp at this);omega))))))
      go_region
      all_goals
        go_wp2
        exact bodyPost_ret (v:=.tuple #[.agg #[.int .i64 x0,.int .i64 x1,.int .u64 x2,.string x3],.int .i64 xe]) (by simp [results,Tryz.results11,go_sem, *]) rfl ⟨rfl,(by repeat (first | (with_reducible exact Below.refl _ _) | (with_reducible refine below_al ?_ _) | (with_reducible refine below_drewN ?_ _) | (with_reducible refine Below.drew ?_) | (with_reducible refine below_via (by assumption) ?_) | (with_reducible refine below_sc ?_ ?_ _;· (first | (simp;done) | (simp;omega) | omega))))⟩
end Go.Proofs.YtakcjiinchghaaaGreatDoor
end
section
namespace Go.Proofs.YtakcjiinchghaaaGreatDoor
set_option linter.unusedVariables false
set_option linter.unusedSimpArgs false
open Go.RowKit Go.Proofs.YtakcjiinchghaaaGreatDoorW.PrintWords Go.Proofs.YtakcjiinchghaaaGreatDoorW.PrintLast PRW
/-- the functions of one value and of two, for every world -/
structure Kfn : Prop where
 one : ∀ (W : World) (d : S41) (a : Knd),3 ≤ d.f0 ∧ d.f0 ≤ 6 → Calls Tryz.prog 78 #[.agg #[.int .i64 d.f0,.int .i64 d.f1,.int .i64 d.f2.f0,.int .i64 d.f2.f1,.int .u64 d.f2.f2,.string d.f2.f3],.agg #[.int .i64 a.of_,.bool a.null,.bool a.bad,.bool a.risk]] W fun e w'=>e = .returned (kndA (kOne d a)) ∧ Below W.heap.size W w'
 two : ∀ (W : World) (d : S41) (a b : Knd),10 ≤ d.f0 ∧ d.f0 ≤ 24 → Calls Tryz.prog 79 #[.agg #[.int .i64 d.f0,.int .i64 d.f1,.int .i64 d.f2.f0,.int .i64 d.f2.f1,.int .u64 d.f2.f2,.string d.f2.f3],.agg #[.int .i64 a.of_,.bool a.null,.bool a.bad,.bool a.risk],.agg #[.int .i64 b.of_,.bool b.null,.bool b.bad,.bool b.risk]] W fun e w'=>e = .returned (kndA (kTwo d a b)) ∧ Below W.heap.size W w'
set_option maxRecDepth 100000 in
set_option maxHeartbeats 8000000 in
theorem typed_c (kf : Kfn) (A : Option Addr) (c : Nat) (e : List S41) (A' : Option Addr) (c' : Nat) (cols : List S57) (w : World) (hC : Kd.C k41 w A e.length e) (hc : e.length ≤ c) (hC' : Kd.C k57 w A' cols.length cols)
    (hd : ∀ d ∈ e,I64 d.f2.f1) :
    Calls Tryz.prog 44 #[.slice A e.length c,.slice A' cols.length c'] w fun en w'=>en = .returned (.agg #[.int .i64 (typedE e cols).of_,.bool (typedE e cols).null,.bool (typedE e cols).bad,.bool (typedE e cols).risk]) ∧ Below w.heap.size w w':=by
  have ES:=hidF (fun W (hb : Below w.heap.size w W)=>esound_c A c e (cols.length : Int) W (Kd.C_below hC hb) hc hd)
  cases s2 : soundE e (cols.length : Int)
  · have hE : typedE e cols = ⟨0,false,true,false⟩:=by unfold typedE;rw [s2];rfl
    rw [hE]
    rw [s2] at ES
    clear hC hC' hd hc s2 hE
    go_enter Tryz.func44,Tryz.ntmps44
    go_wp2_with (first | (go_at_call 13;(fail_if_success (have:=w1));((with_reducible refine (ES.out _ (by repeat (first | (with_reducible exact Below.refl _ _) | (with_reducible refine below_al ?_ _) | (with_reducible refine below_drewN ?_ _) | (with_reducible refine Below.drew ?_) | (with_reducible refine below_via (by assumption) ?_) | (with_reducible refine below_sc ?_ ?_ _;· (first | (simp;done) | (simp;omega) | omega))))).mono ?_);rintro e w1 ⟨rfl,hb1⟩;(try (replace hb1:=below_undrew hb1));(try (replace hb1:=below_undrewN hb1));obtain ⟨hc1,hf1⟩:=bcell hb1;(try (have hz0_1 : w.heap.size < w1.heap.size:=(by have:=hb1.size;(try simp at this);omega)));(try (have hz1_1 : w.heap.size + 1 < w1.heap.size:=(by have:=hb1.size;(try simp at this);omega))))) | (go_at_call 13;(fail_if_success (have:=w2));((with_reducible refine (ES.out _ (by repeat (first | (with_reducible exact Below.refl _ _) | (with_reducible refine below_al ?_ _) | (with_reducible refine below_drewN ?_ _) | (with_reducible refine Below.drew ?_) | (with_reducible refine below_via (by assumption) ?_) | (with_reducible refine below_sc ?_ ?_ _;· (first | (simp;done) | (simp;omega) | omega))))).mono ?_);rintro e w2 ⟨rfl,hb2⟩;(try (replace hb2:=below_undrew hb2));(try (replace hb2:=below_undrewN hb2));obtain ⟨hc2,hf2⟩:=bcell hb2;(try (have hz0_2 : w.heap.size < w2.heap.size:=(by have:=hb2.size;(try simp at this);omega)));(try (have hz1_2 : w.heap.size + 1 < w2.heap.size:=(by have:=hb2.size;(try simp at this);omega)));(try (have hz_1_2 : w1.heap.size < w2.heap.size:=(by have:=hb2.size;(try simp at this);omega))))))
    exact bodyPost_ret (v:=.agg #[.int .i64 0,.bool false,.bool true,.bool false]) (by simp [results,Tryz.results44,go_sem, *]) rfl ⟨rfl,(by repeat (first | (with_reducible exact Below.refl _ _) | (with_reducible refine below_al ?_ _) | (with_reducible refine below_drewN ?_ _) | (with_reducible refine Below.drew ?_) | (with_reducible refine below_via (by assumption) ?_) | (with_reducible refine below_sc ?_ ?_ _;· (first | (simp;done) | (simp;omega) | omega))))⟩
  · obtain ⟨x,hx,_⟩ : ∃ x,runK cols e [] = [x] ∧ ∀ s,runK cols e s = x :: s:=mrun_one (takes_ok (cols.length : Int)) (soundE_iff.1 s2).2
    have hE : typedE e cols = x:=by
      unfold typedE
      have h1 : mrun (fun d=>d.f0) (kNone cols) kOne kTwo e [] = [x]:=hx
      rw [s2,if_pos rfl,h1];rfl
    rw [hE]
    have RN : Hid (∀ rb W,Below w.heap.size w W → W.cell? ⟨rb,0,none⟩ = some (.slice A' cols.length c') → Calls Tryz.prog 76 #[.slice A e.length c,.func (.func 77) #[] #[.pointer (some ⟨rb,0,none⟩)],.func (.func 78) #[] #[],.func (.func 79) #[] #[]] W fun en w'=>en = .returned (.agg #[.int .i64 x.of_,.bool x.null,.bool x.bad,.bool x.risk]) ∧ Below W.heap.size W w'):=hidF fun rb W hb hcell =>
      runK_c rb cols A c e W (Kd.C_below hC hb) (soundE_iff.1 s2).1 (soundE_iff.1 s2).2
        ⟨fun W2 d hb2 h2=>typed1_c rb A' c' cols d W2 ((hb2.cell (p:=⟨rb,0,none⟩) (World.block_lt_of_cell? W _ hcell)).trans hcell) (Kd.C_below (Kd.C_below hC' hb) hb2) h2,
         kf.one,kf.two⟩ x hx
    rw [s2] at ES
    obtain ⟨x0,x1,x2,x3⟩:=x
    simp only at RN ⊢
    clear hC hC' hd hc s2 hE hx
    go_enter Tryz.func44,Tryz.ntmps44
    go_wp2_with (first | (go_at_call 13;(fail_if_success (have:=w1));((with_reducible refine (ES.out _ (by repeat (first | (with_reducible exact Below.refl _ _) | (with_reducible refine below_al ?_ _) | (with_reducible refine below_drewN ?_ _) | (with_reducible refine Below.drew ?_) | (with_reducible refine below_via (by assumption) ?_) | (with_reducible refine below_sc ?_ ?_ _;· (first | (simp;done) | (simp;omega) | omega))))).mono ?_);rintro e w1 ⟨rfl,hb1⟩;(try (replace hb1:=below_undrew hb1));(try (replace hb1:=below_undrewN hb1));obtain ⟨hc1,hf1⟩:=bcell hb1;(try (have hz0_1 : w.heap.size < w1.heap.size:=(by have:=hb1.size;(try simp at this);omega)));(try (have hz1_1 : w.heap.size + 1 < w1.heap.size:=(by have:=hb1.size;(try simp at this);omega))))) | (go_at_call 76;(fail_if_success (have:=w1));((with_reducible refine (RN.out _ _ (by repeat (first | (with_reducible exact Below.refl _ _) | (with_reducible refine below_al ?_ _) | (with_reducible refine below_drewN ?_ _) | (with_reducible refine Below.drew ?_) | (with_reducible refine below_via (by assumption) ?_) | (with_reducible refine below_sc ?_ ?_ _;· (first | (simp;done) | (simp;omega) | omega)))) (by simp [go_sem, *])).mono ?_);rintro e w1 ⟨rfl,hb1⟩;(try (replace hb1:=below_undrew hb1));(try (replace hb1:=below_undrewN hb1));obtain ⟨hc1,hf1⟩:=bcell hb1;(try (have hz0_1 : w.heap.size < w1.heap.size:=(by have:=hb1.size;(try simp at this);omega)));(try (have hz1_1 : w.heap.size + 1 < w1.heap.size:=(by have:=hb1.size;(try simp at this);omega))))) | (go_at_call 13;(fail_if_success (have:=w2));((with_reducible refine (ES.out _ (by repeat (first | (with_reducible exact Below.refl _ _) | (with_reducible refine below_al ?_ _) | (with_reducible refine below_drewN ?_ _) | (with_reducible refine Below.drew ?_) | (with_reducible refine below_via (by assumption) ?_) | (with_reducible refine below_sc ?_ ?_ _;· (first | (simp;done) | (simp;omega) | omega))))).mono ?_);rintro e w2 ⟨rfl,hb2⟩;(try (replace hb2:=below_undrew hb2));(try (replace hb2:=below_undrewN hb2));obtain ⟨hc2,hf2⟩:=bcell hb2;(try (have hz0_2 : w.heap.size < w2.heap.size:=(by have:=hb2.size;(try simp at this);omega)));(try (have hz1_2 : w.heap.size + 1 < w2.heap.size:=(by have:=hb2.size;(try simp at this);omega)));(try (have hz_1_2 : w1.heap.size < w2.heap.size:=(by have:=hb2.size;(try simp at this);omega))))) | (go_at_call 76;(fail_if_success (have:=w2));((with_reducible refine (RN.out _ _ (by repeat (first | (with_reducible exact Below.refl _ _) | (with_reducible refine below_al ?_ _) | (with_reducible refine below_drewN ?_ _) | (with_reducible refine Below.drew ?_) | (with_reducible refine below_via (by assumption) ?_) | (with_reducible refine below_sc ?_ ?_ _;· (first | (simp;done) | (simp;omega) | omega)))) (by simp [go_sem, *])).mono ?_);rintro e w2 ⟨rfl,hb2⟩;(try (replace hb2:=below_undrew hb2));(try (replace hb2:=below_undrewN hb2));obtain ⟨hc2,hf2⟩:=bcell hb2;(try (have hz0_2 : w.heap.size < w2.heap.size:=(by have:=hb2.size;(try simp at this);omega)));(try (have hz1_2 : w.heap.size + 1 < w2.heap.size:=(by have:=hb2.size;(try simp at this);omega)));(try (have hz_1_2 : w1.heap.size < w2.heap.size:=(by have:=hb2.size;(try simp at this);omega))))))
    all_goals exact bodyPost_ret (v:=.agg #[.int .i64 x0,.bool x1,.bool x2,.bool x3]) (by simp [results,Tryz.results44,go_sem, *]) rfl ⟨rfl,(by repeat (first | (with_reducible exact Below.refl _ _) | (with_reducible refine below_al ?_ _) | (with_reducible refine below_drewN ?_ _) | (with_reducible refine Below.drew ?_) | (with_reducible refine below_via (by assumption) ?_) | (with_reducible refine below_sc ?_ ?_ _;· (first | (simp;done) | (simp;omega) | omega))))⟩
set_option maxRecDepth 100000 in
set_option maxHeartbeats 8000000 in
theorem type_c (kf : Kfn) (A : Option Addr) (c : Nat) (e : List S41) (A' : Option Addr) (c' : Nat) (cols : List S57) (w : World) (hC : Kd.C k41 w A e.length e) (hc : e.length ≤ c) (hC' : Kd.C k57 w A' cols.length cols)
  (hd : ∀ d ∈ e,I64 d.f2.f1) :
  Calls Tryz.prog 15 #[.slice A e.length c,.slice A' cols.length c'] w fun en w'=>en = .returned (.tuple #[.int .i64 (typeE e cols).1,.bool (typeE e cols).2.1,.bool (typeE e cols).2.2]) ∧ Below w.heap.size w w':=by
 have ES:=hidF (fun W (hb : Below w.heap.size w W)=>typed_c kf A c e A' c' cols W (Kd.C_below hC hb) hc (Kd.C_below hC' hb) hd)
 unfold typeE
 generalize typedE e cols = x at *
 obtain ⟨x0,x1,x2,x3⟩:=x
 simp only at ES ⊢
 clear hC hC' hd hc
 cases x2
 ·simp only [Bool.false_eq_true,if_false]
  go_enter Tryz.func15,Tryz.ntmps15
  go_wp2_with (first | (go_at_call 44;(fail_if_success (have:=w1));((with_reducible refine (ES.out _ (by repeat (first | (with_reducible exact Below.refl _ _) | (with_reducible refine below_al ?_ _) | (with_reducible refine below_drewN ?_ _) | (with_reducible refine Below.drew ?_) | (with_reducible refine below_via (by assumption) ?_) | (with_reducible refine below_sc ?_ ?_ _;· (first | (simp;done) | (simp;omega) | omega))))).mono ?_);rintro e w1 ⟨rfl,hb1⟩;(try (replace hb1:=below_undrew hb1));(try (replace hb1:=below_undrewN hb1));obtain ⟨hc1,hf1⟩:=bcell hb1;(try (have hz0_1 : w.heap.size < w1.heap.size:=(by have:=hb1.size;(try simp at this);omega))))))
  go_region
  all_goals
   go_wp2
   exact bodyPost_ret (v:=.tuple #[.int .i64 x0,.bool x1,.bool true]) (by simp [results,Tryz.results15,go_sem, *]) rfl ⟨rfl,(by repeat (first | (with_reducible exact Below.refl _ _) | (with_reducible refine below_al ?_ _) | (with_reducible refine below_drewN ?_ _) | (with_reducible refine Below.drew ?_) | (with_reducible refine below_via (by assumption) ?_) | (with_reducible refine below_sc ?_ ?_ _;· (first | (simp;done) | (simp;omega) | omega))))⟩
 ·simp only [if_true]
  go_enter Tryz.func15,Tryz.ntmps15
  go_wp2_with (first | (go_at_call 44;(fail_if_success (have:=w1));((with_reducible refine (ES.out _ (by repeat (first | (with_reducible exact Below.refl _ _) | (with_reducible refine below_al ?_ _) | (with_reducible refine below_drewN ?_ _) | (with_reducible refine Below.drew ?_) | (with_reducible refine below_via (by assumption) ?_) | (with_reducible refine below_sc ?_ ?_ _;· (first | (simp;done) | (simp;omega) | omega))))).mono ?_);rintro e w1 ⟨rfl,hb1⟩;(try (replace hb1:=below_undrew hb1));(try (replace hb1:=below_undrewN hb1));obtain ⟨hc1,hf1⟩:=bcell hb1;(try (have hz0_1 : w.heap.size < w1.heap.size:=(by have:=hb1.size;(try simp at this);omega))))))
  exact bodyPost_ret (v:=.tuple #[.int .i64 0,.bool false,.bool false]) (by simp [results,Tryz.results15,go_sem, *]) rfl ⟨rfl,(by repeat (first | (with_reducible exact Below.refl _ _) | (with_reducible refine below_al ?_ _) | (with_reducible refine below_drewN ?_ _) | (with_reducible refine Below.drew ?_) | (with_reducible refine below_via (by assumption) ?_) | (with_reducible refine below_sc ?_ ?_ _;· (first | (simp;done) | (simp;omega) | omega))))⟩
set_option maxRecDepth 100000 in
set_option maxHeartbeats 8000000 in
theorem safe_c (kf : Kfn) (A : Option Addr) (c : Nat) (e : List S41) (A' : Option Addr) (c' : Nat) (cols : List S57) (w : World) (hC : Kd.C k41 w A e.length e) (hc : e.length ≤ c) (hC' : Kd.C k57 w A' cols.length cols)
  (hd : ∀ d ∈ e,I64 d.f2.f1) :
  Calls Tryz.prog 17 #[.slice A e.length c,.slice A' cols.length c'] w fun en w'=>en = .returned (.bool (safeE e cols)) ∧ Below w.heap.size w w':=by
 have ES:=hidF (fun W (hb : Below w.heap.size w W)=>typed_c kf A c e A' c' cols W (Kd.C_below hC hb) hc (Kd.C_below hC' hb) hd)
 unfold safeE
 generalize typedE e cols = x at *
 obtain ⟨x0,x1,x2,x3⟩:=x
 simp only at ES ⊢
 clear hC hC' hd hc
 cases x2 <;> cases x3
 all_goals
  go_enter Tryz.func17,Tryz.ntmps17
  go_wp2_with (first | (go_at_call 44;(fail_if_success (have:=w1));((with_reducible refine (ES.out _ (by repeat (first | (with_reducible exact Below.refl _ _) | (with_reducible refine below_al ?_ _) | (with_reducible refine below_drewN ?_ _) | (with_reducible refine Below.drew ?_) | (with_reducible refine below_via (by assumption) ?_) | (with_reducible refine below_sc ?_ ?_ _;· (first | (simp;done) | (simp;omega) | omega))))).mono ?_);rintro e w1 ⟨rfl,hb1⟩;(try (replace hb1:=below_undrew hb1));(try (replace hb1:=below_undrewN hb1));obtain ⟨hc1,hf1⟩:=bcell hb1;(try (have hz0_1 : w.heap.size < w1.heap.size:=(by have:=hb1.size;(try simp at this);omega))))))
  all_goals exact bodyPost_ret (v:=.bool _) (by simp [results,Tryz.results17,go_sem, *] <;> rfl) rfl ⟨rfl,(by repeat (first | (with_reducible exact Below.refl _ _) | (with_reducible refine below_al ?_ _) | (with_reducible refine below_drewN ?_ _) | (with_reducible refine Below.drew ?_) | (with_reducible refine below_via (by assumption) ?_) | (with_reducible refine below_sc ?_ ?_ _;· (first | (simp;done) | (simp;omega) | omega))))⟩
end Go.Proofs.YtakcjiinchghaaaGreatDoor
end
section
namespace Go.Proofs.YtakcjiinchghaaaGreatDoor
set_option linter.unusedVariables false
set_option linter.unusedSimpArgs false
open Go.RowKit Go.Proofs.YtakcjiinchghaaaGreatDoorW.PrintWords Go.Proofs.YtakcjiinchghaaaGreatDoorW.PrintLast PRW
theorem kfn : Kfn where
 one:=fun W d a h=>by
  rcases (show d.f0 = 3 ∨ d.f0 = 4 ∨ d.f0 = 5 ∨ d.f0 = 6 by omega) with q | q | q | q
  ·exact one3_c d a W q
  ·exact one4_c d a W q
  ·exact one5_c d a W q
  ·exact one6_c d a W q
 two:=fun W d a b h=>twoK_c d a b W h
end Go.Proofs.YtakcjiinchghaaaGreatDoor
end
section
namespace Go.Proofs.YtakcjiinchghaaaGreatDoor
set_option linter.unusedVariables false
set_option linter.unusedSimpArgs false
open Go.RowKit Go.Proofs.YtakcjiinchghaaaGreatDoorW.PrintWords Go.Proofs.YtakcjiinchghaaaGreatDoorW.PrintLast PRW
theorem infoDd : (Tryz.prog.info? 41).map (fun i=>(i.zero,i.size,i.bytes)) = some (some (.agg #[(.int .i64 0),(.int .i64 0),(.int .i64 0),(.int .i64 0),(.int .u64 0),(.string ⟨#[]⟩)]),6,56):=by kernel_rfl
theorem C_empty {α : Type} {d : Kd α} {w : World} {n : Nat} {xs : List α} (h : d.C w none n xs) : xs = [] ∧ n = 0:=by
 obtain ⟨h1,h2,h3⟩:=h
 rcases Nat.eq_zero_or_pos n with h0 | h0
 ·subst h0;exact ⟨List.eq_nil_of_length_eq_zero h1,rfl⟩
 ·obtain ⟨ad,e,_⟩:=h3 h0;cases e
set_option maxRecDepth 100000 in
set_option maxHeartbeats 4000000 in
theorem cloneDo_c (A0 : Option Addr) (c0 : Nat) (l : List S41) (w : World) (hr : Kd.C k41 w A0 l.length l) (hl : l.length ≤ 2513169434843) :
  Calls Tryz.prog 46 #[.slice A0 l.length c0] w fun e w'=>∃ v0,e = .returned v0 ∧ Kd.R k41 41 w' w.heap.size (fun _=>True) v0 l ∧ Below w.heap.size w w':=by
 have q33 : ∀ (w : World) (a : Option Addr) (n c n' c' : Nat),(binOp .eql 23 (.slice a n c) (.slice none n' c')).run Tryz.prog w = .ok (.bool a.isNone) w:=fun w a n c n' c'=>Lib.run_eql_slice_nil w _ _ a n c n' c' Tryz.underlying23
 have HR:=hidF hr
 clear hr
 cases A0 with
 | none =>
  obtain ⟨rfl,h0⟩:=C_empty HR.out
  go_enter Tryz.func46,Tryz.ntmps46
  go_wp2
  go_ret
  exact ⟨_,rfl,Kd.R_nil _ _ _ _ _,Below.refl _ _⟩
 | some ad =>
  have HB:=Aside0.mk (Below.refl w.heap.size w)
  go_enter Tryz.func46,Tryz.ntmps46
  go_wp2_with (first
   | ((with_reducible refine gate_dst (N:=5) rfl ?_);refine Kd.R_lit k41 _ 41 ?hg (N:=5) ?hd (xs:=([] : List S41)) (inner:=[]) (ok:=fun _=>True) (okp:=fun _=>True) ?hr ?hp (fun _ hk=>hk) trivial (Below.refl _ _) (Nat.le_refl _) (by simp) ?_;(case hd=>rfl);(case hg=>rfl);(case hr=>first | (go_simp;done) | (go_simp;rfl));(case hp=>exact Reps.none _ _);intro v1 w1 ho1 hb1 hg1 hn1;clear hg1 hn1;have HO1:=Aside0.mk ho1;have HB1:=Aside0.mk hb1;clear ho1 hb1)
   | ((with_reducible refine gate_dst (N:=7) rfl ?_);refine Kd.R_append_rows k41 (w0:=w) w.heap.size rfl (.tmp 5) (.tmp 6) 23 41 (.agg #[(.int .i64 0),(.int .i64 0),(.int .i64 0),(.int .i64 0),(.int .u64 0),(.string ⟨#[]⟩)]) 56 rfl Tryz.underlying23 infoDd rfl (by decide) (by omega) v1 [] l _ _ _ (fun _=>True) (fun _=>False) rfl rfl ?aO ?aR (fun _ _ h=>h) (fun _ h=>h.elim) ?aF ?aB ?aS ?aL ?_;(case aO=>exact HO1.out);(case aR=>exact Kd.C_below HR.out HB1.out);(case aF=>exact fun _ _=>trivial);(case aB=>exact HB1.out);(case aS=>exact HB1.out.size);(case aL=>simp;omega);intro v2 w2 ho2 hb2 hg2 hn2;clear hg2 hn2;have HO2:=Aside0.mk ho2;have HB2:=Aside0.mk hb2;clear ho2 hb2))
  go_ret
  exact ⟨_,rfl,HO2.out,HB2.out⟩
end Go.Proofs.YtakcjiinchghaaaGreatDoor
end
section
namespace Go.Proofs.YtakcjiinchghaaaGreatDoor
set_option linter.unusedVariables false
set_option linter.unusedSimpArgs false
open Go.RowKit Go.Proofs.YtakcjiinchghaaaGreatDoorW.PrintWords Go.Proofs.YtakcjiinchghaaaGreatDoorW.PrintLast PRW
/-- every column that is named has a new place -/
def okTo (e : List S41) (tos : List Int) : Bool:=e.all fun d=>decide (d.f0 ≠ 2) || (decide (0 ≤ d.f1) && decide (d.f1 < (tos.length : Int)))
def moveE (e : List S41) (tos : List Int) : List S41:=if okTo e tos then e.map (mvD tos) else []
def moveF (e : List S41) (tos : List Int) : Int:=if okTo e tos then 0 else 1
theorem okTo_false {e : List S41} {tos : List Int} {i : Nat} {d : S41} (hd : e[i]? = some d) (h : ¬ (d.f0 ≠ 2 ∨ (0 ≤ d.f1 ∧ d.f1 < (tos.length : Int)))) : okTo e tos = false:=by
 unfold okTo
 rw [List.all_eq_false]
 exact ⟨d,List.mem_of_getElem? hd,by simp only [Bool.or_eq_true,Bool.and_eq_true,decide_eq_true_eq];exact h⟩
theorem okTo_take {e : List S41} {tos : List Int} {i : Nat} {d : S41} (hd : e[i]? = some d) (h0 : okTo (e.take i) tos = true) (h : d.f0 ≠ 2 ∨ (0 ≤ d.f1 ∧ d.f1 < (tos.length : Int))) : okTo (e.take (i + 1)) tos = true:=by
 have hi : i < e.length:=(List.getElem?_eq_some_iff.1 hd).1
 have he : e[i] = d:=(List.getElem?_eq_some_iff.1 hd).2
 unfold okTo at *
 rw [List.take_succ_eq_append_getElem hi,List.all_append,h0,he]
 simp only [List.all_cons,List.all_nil,Bool.and_true,Bool.true_and,Bool.or_eq_true,Bool.and_eq_true,decide_eq_true_eq]
 exact h
/-- the steps of which so many have moved -/
def mvTo (e : List S41) (tos : List Int) (i : Nat) : List S41:=(e.take i).map (mvD tos) ++ e.drop i
theorem mvTo_len (e : List S41) (tos : List Int) (i : Nat) (hi : i ≤ e.length) : (mvTo e tos i).length = e.length:=by unfold mvTo;simp;omega
theorem mvTo_set {e : List S41} {tos : List Int} {i : Nat} {d : S41} (hd : e[i]? = some d) : (mvTo e tos i).set i (mvD tos d) = mvTo e tos (i + 1):=by
 have hi : i < e.length:=(List.getElem?_eq_some_iff.1 hd).1
 have he : e[i] = d:=(List.getElem?_eq_some_iff.1 hd).2
 unfold mvTo
 rw [List.take_succ_eq_append_getElem hi,List.map_append,he,List.drop_eq_getElem_cons hi,List.set_append_right _ _ (by simp;omega)]
 have : i - ((e.take i).map (mvD tos)).length = 0:=by simp;omega
 rw [this,List.set_cons_zero]
 simp
theorem mvTo_same {e : List S41} {tos : List Int} {i : Nat} {d : S41} (hd : e[i]? = some d) (h : d.f0 ≠ 2) : mvTo e tos (i + 1) = mvTo e tos i:=by
 have hi : i < e.length:=(List.getElem?_eq_some_iff.1 hd).1
 have he : e[i] = d:=(List.getElem?_eq_some_iff.1 hd).2
 unfold mvTo
 rw [List.take_succ_eq_append_getElem hi,List.map_append,he,List.drop_eq_getElem_cons hi,he]
 simp [mvD_not tos d h]
theorem mvTo_at {e : List S41} {tos : List Int} {i : Nat} {d : S41} (hd : e[i]? = some d) (z : S41) : (mvTo e tos i).getD i z = d:=by
 have hi : i < e.length:=(List.getElem?_eq_some_iff.1 hd).1
 have he : e[i] = d:=(List.getElem?_eq_some_iff.1 hd).2
 unfold mvTo
 rw [List.getD_eq_getElem?_getD,List.getElem?_append_right (by simp;omega)]
 have : i - ((e.take i).map (mvD tos)).length = 0:=by simp;omega
 rw [this,List.drop_eq_getElem_cons hi,he];rfl
theorem mvTo_full (e : List S41) (tos : List Int) (i : Nat) (hi : i = e.length) : mvTo e tos i = e.map (mvD tos):=by
 unfold mvTo;subst hi;simp
/-- the field of one step is written in a row of the call's own -/
theorem put_step {W : World} {base g n cap : Nat} {xs : List S41} {ok : Nat → Prop} (h : Kd.R k41 41 W base ok (.slice (some ⟨g,0,none⟩) n cap) xs) (i : Nat) (hi : i < n) (d : S41) (hd : xs.getD i z41 = d) (x : Int) :
  W.cell? ⟨g,i * 6 + 1,none⟩ = some (.int .i64 d.f1) ∧ W.frozen? ⟨g,i * 6 + 1,none⟩ = false ∧ Kd.R k41 41 (W.setCell ⟨g,i * 6 + 1,none⟩ (.int .i64 x)) base ok (.slice (some ⟨g,0,none⟩) n cap) (xs.set i ⟨d.f0,x,d.f2⟩):=by
 obtain ⟨c,hcl,hM,hcc,hcf⟩:=Kd.R_elem h z41 (i : Int) (by omega) (by omega)
 simp only [Int.toNat_natCast] at hM hcc hcf
 rw [hd] at hM
 obtain rfl:=k41_openM hM
 refine ⟨hcc 1 _ rfl,hcf 1, ?_⟩
 have:=(Kd.R_seg h (i : Int) (by omega) (by omega) (c:=_) (seg:=[.int .i64 x]) (j:=1) hcl hcc (by show 1 + 1 ≤ 6;omega) (x':=⟨d.f0,x,d.f2⟩) (okp:=fun k=>ok k ∧ k ≠ g) (k41_mkM _ _ _ _) (fun _ h=>h)).1
 exact this
def natOfV : Value → Nat
 | .int _ n=>n.toNat
 | _=>0
set_option maxRecDepth 100000 in
set_option maxHeartbeats 8000000 in
theorem move_c (A : Option Addr) (c : Nat) (e : List S41) (A' : Option Addr) (c' : Nat) (tos : List Int) (w : World) (hC : Kd.C k41 w A e.length e) (hT : Kd.C (Kd.int .i64) w A' tos.length tos) (hl : e.length ≤ 2513169434843) :
  Calls Tryz.prog 19 #[.slice A e.length c,.slice A' tos.length c'] w fun en w'=>∃ v,en = .returned (.tuple #[v,.int .i64 (moveF e tos)]) ∧ Kd.R k41 41 w' w.heap.size (fun _=>True) v (moveE e tos) ∧ Below w.heap.size w w':=by
 have HC:=hidF hC
 have HT:=hidF hT
 have HL:=hidF hl
 clear hC hT
 go_enter Tryz.func19,Tryz.ntmps19
 go_wp2_with (go_at_call 46;((with_reducible refine (cloneDo_c A c e _ HC.out HL.out).mono ?_);rintro en w1 ⟨v1,rfl,h1,hb1⟩;obtain ⟨A1,c1,rfl⟩:=Kd.R_slice h1;have HR1:=hidF h1;have HB1:=hidF hb1;clear h1 hb1))
 go_loopw [13] (fun v wr=>∃ i : Nat,v = .int .i64 (i : Int) ∧ i ≤ e.length ∧ Hid (okTo (e.take i) tos = true) ∧ Hid (Below w.heap.size w wr) ∧ Hid (Kd.R k41 41 wr w.heap.size (fun _=>True) (.slice A1 e.length c1) (mvTo e tos i))) (fun v _=>e.length - natOfV v)
 case atStart=>exact ⟨0,rfl,by omega,hidF rfl,HB1,hidF (by simpa [mvTo] using HR1.out)⟩
 case round =>
  clear HR1 HB1
  obtain ⟨i,rfl,hil,HK,HB,HR⟩:=hrel
  by_cases hlt : i < e.length
  ·obtain ⟨d,hd⟩ : ∃ d,e[i]? = some d:=⟨_,List.getElem?_eq_getElem hlt⟩
   have HD:=hidF hd
   have rdd : rd_T41 e (i : Int) = d:=by
    unfold rd_T41
    simp only [Int.toNat_natCast,List.getD_eq_getElem?_getD]
    rw [hd];rfl
   obtain ⟨ad,ea,k0,k1,k2,k3,k4,k5⟩:=at_T41 (Kd.C_below HC.out HB.out) (i : Int) (by omega) (by omega)
   cases ea
   rw [rdd] at k0 k1 k2 k3 k4 k5
   simp only [Int.toNat_natCast] at k0 k1 k2 k3 k4 k5
   have hii : (i : Int) < (e.length : Int):=by omega
   have hwle:=HB.out.size
   by_cases h2 : d.f0 = 2
   ·by_cases hin : 0 ≤ d.f1 ∧ d.f1 < (tos.length : Int)
    ·obtain ⟨tad,rfl,t0⟩:=Kd.at_int (Kd.C_below HT.out HB.out) d.f1 hin.1 hin.2
     obtain ⟨g,cap,hv,hg,hgl,_⟩:=Kd.R_form HR.out (by rw [mvTo_len e tos i hil];omega)
     rw [mvTo_len e tos i hil] at hv
     injection hv with hv1 hv2 hv3
     subst hv1;subst hv3
     have tl:=World.block_lt_of_cell? wr _ t0
     have n1 : ¬ (tad.add d.f1.toNat).block = wr.heap.size:=by omega
     have n1' : ¬ wr.heap.size = (tad.add d.f1.toNat).block:=by omega
     have n2 : ¬ g = wr.heap.size:=by omega
     have n2' : ¬ wr.heap.size = g:=by omega
     obtain ⟨p0,p1,p2⟩:=put_step HR.out i hlt d (mvTo_at hd _) (rd tos d.f1)
     have HP:=hidF p2
     have HGG:=hidF hg
     clear p2
     have hmv : mvD tos d = ⟨d.f0,rd tos d.f1,d.f2⟩:=if_pos h2
     have HS:=hidF ((mvTo_set (tos:=tos) hd).symm)
     rw [hmv] at HS
     have HK2:=hidF (okTo_take hd HK.out (.inr hin))
     have e2 : (d.f0 != 2) = false:=by rw [h2];rfl
     have e3 : decide (d.f1 < 0) = false:=decide_eq_false (by omega)
     have e4 : decide ((tos.length : Int) ≤ d.f1) = false:=decide_eq_false (by omega)
     obtain ⟨q0,q1⟩:=hin
     clear hd rdd h2 hmv
     go_wp2_with fail
     go_roundw
     case rel=>exact ⟨i + 1,by go_num,by omega,HK2,hidF ((HB.out.setCell (p:=⟨g,i * 6 + 1,none⟩) HGG.out _).alloc (by simpa using HB.out.size) _),hidF (by rw [HS.out];exact Kd.R_alloc HP.out _)⟩
     case measure=>simp [natOfV];omega
    ·have HF:=hidF (okTo_false (tos:=tos) hd (fun h=>h.elim (fun h=>h h2) hin))
     have e2 : (d.f0 != 2) = false:=by rw [h2];rfl
     have hret : moveE e tos = []:=by unfold moveE;rw [HF.out];rfl
     have hret2 : moveF e tos = 1:=by unfold moveF;rw [HF.out];rfl
     have HQ:=hidF hret
     have HQ2:=hidF hret2
     by_cases h3 : d.f1 < 0
     ·have e3 : decide (d.f1 < 0) = true:=decide_eq_true h3
      clear hd rdd h2 h3 hin hret hret2
      go_wp2_with fail
      exact bodyPost_ret (v:=.tuple #[.slice none 0 0,.int .i64 1]) (by simp [results,Tryz.results19,go_sem, *]) rfl ⟨_,by rw [HQ2.out],by rw [HQ.out];exact Kd.R_nil _ _ _ _ _,HB.out.alloc HB.out.size _⟩
     ·have e3 : decide (d.f1 < 0) = false:=decide_eq_false h3
      have e4 : decide ((tos.length : Int) ≤ d.f1) = true:=decide_eq_true (by omega)
      clear hd rdd h2 h3 hin hret hret2
      go_wp2_with fail
      exact bodyPost_ret (v:=.tuple #[.slice none 0 0,.int .i64 1]) (by simp [results,Tryz.results19,go_sem, *]) rfl ⟨_,by rw [HQ2.out],by rw [HQ.out];exact Kd.R_nil _ _ _ _ _,HB.out.alloc HB.out.size _⟩
   ·have HK2:=hidF (okTo_take (tos:=tos) hd HK.out (.inl h2))
    have HS:=hidF (mvTo_same (tos:=tos) hd h2)
    have e2 : (d.f0 != 2) = true:=bne_iff_ne.2 h2
    clear hd rdd h2
    go_wp2_with fail
    go_roundw
    case rel=>exact ⟨i + 1,by go_num,by omega,HK2,hidF (HB.out.alloc HB.out.size _),hidF (by rw [HS.out];exact Kd.R_alloc HR.out _)⟩
    case measure=>simp [natOfV];omega
  ·have hie : i = e.length:=by omega
   have hok : okTo e tos = true:=by have:=HK.out;rwa [hie,List.take_of_length_le (Nat.le_refl _)] at this
   have hret : moveE e tos = mvTo e tos i:=by unfold moveE;rw [hok,mvTo_full e tos i hie];rfl
   have hret2 : moveF e tos = 0:=by unfold moveF;rw [hok];rfl
   have HQ:=hidF hret
   have HQ2:=hidF hret2
   have hii : ¬ (i : Int) < (e.length : Int):=by omega
   clear hie hok hret hret2 hlt hil
   go_wp2_with fail
   exact bodyPost_ret (v:=.tuple #[.slice A1 e.length c1,.int .i64 0]) (by simp [results,Tryz.results19,go_sem, *]) rfl ⟨_,by rw [HQ2.out],by rw [HQ.out];exact HR.out,HB.out⟩
end Go.Proofs.YtakcjiinchghaaaGreatDoor
end
section
namespace Go.Proofs.YtakcjiinchghaaaGreatDoor
set_option linter.unusedVariables false
set_option linter.unusedSimpArgs false
open Go.RowKit Go.Proofs.YtakcjiinchghaaaGreatDoorW.PrintWords Go.Proofs.YtakcjiinchghaaaGreatDoorW.PrintLast PRW
/-- what stands behind a step's code -/
def tailS (d : S41) : ByteArray:=if d.f0 = 1 then ⟨(showL d.f2.f0 d.f2.f1 d.f2.f2 d.f2.f3).toArray⟩ else if d.f0 = 2 ∨ d.f0 = 6 then ⟨(Lib.itoa d.f1).toArray⟩ else ⟨#[]⟩
def codeS (d : S41) : ByteArray:=⟨(Lib.itoa d.f0).toArray⟩
/-- a step as a text -/
def stepS (d : S41) : ByteArray:=if d.f0 = 1 ∨ d.f0 = 2 ∨ d.f0 = 6 then codeS d ++ ⟨#[58]⟩ ++ tailS d else codeS d ++ ⟨#[58]⟩
def partsE (e : List S41) : List ByteArray:=e.map stepS
theorem parts_len (e : List S41) : (partsE e).length = e.length:=by unfold partsE;rw [List.length_map]
theorem parts_take {e : List S41} {i : Nat} {d : S41} (hd : e[i]? = some d) : partsE (e.take (i + 1)) = partsE (e.take i) ++ [stepS d]:=by
 have hi : i < e.length:=(List.getElem?_eq_some_iff.1 hd).1
 have he : e[i] = d:=(List.getElem?_eq_some_iff.1 hd).2
 unfold partsE
 rw [List.take_succ_eq_append_getElem hi,List.map_append,he];rfl
theorem stepS_size (d : S41) (h : d.f0 = 1 ∨ d.f0 = 2 ∨ d.f0 = 6) : (stepS d).size = (codeS d).size + 1 + (tailS d).size:=by
 unfold stepS
 rw [if_pos h,ByteArray.size_append,ByteArray.size_append];rfl
theorem stepS_size0 (d : S41) (h : ¬ (d.f0 = 1 ∨ d.f0 = 2 ∨ d.f0 = 6)) : (stepS d).size = (codeS d).size + 1:=by
 unfold stepS
 rw [if_neg h,ByteArray.size_append];rfl
theorem infoSt : (Tryz.prog.info? 9).map (fun i=>(i.zero,i.size,i.bytes)) = some (some (.string ⟨#[]⟩),1,16):=by kernel_rfl
theorem keepC5 {W w1 : World} {p : Addr} {v : Value} (hb : Below W.heap.size W w1) (h : W.cell? p = some v) : w1.cell? p = some v:=(hb.cell (World.block_lt_of_cell? W _ h)).trans h
set_option maxRecDepth 100000 in
set_option maxHeartbeats 8000000 in
theorem eshow_c (A : Option Addr) (c : Nat) (e : List S41) (w : World) (hC : Kd.C k41 w A e.length e) (hT : ETab w) (hd : ∀ d ∈ e,I64 d.f0 ∧ I64 d.f1 ∧ I64 d.f2.f1 ∧ U64 d.f2.f2) (hl : e.length ≤ 1000000)
  (hz : ∀ d ∈ e,(stepS d).size ≤ 1099511627776) (r : ByteArray) (hj : xJoin.f (partsE e) ⟨#[32]⟩ = some r) :
  Calls Tryz.prog 25 #[.slice A e.length c] w fun en w'=>en = .returned (.string r) ∧ Below w.heap.size w w':=by
 have HC:=hidF hC
 have HTW:=hidF hT
 have HD:=hidF hd
 have HZ:=hidF hz
 have HJ:=hidF hj
 have hl1 : (0 : Int) ≤ (e.length : Int):=by omega
 have hl2 : (e.length : Int).toNat ≤ 1000000:=by omega
 clear hC hT hd hz hj
 go_enter Tryz.func25,Tryz.ntmps25
 go_wp2_with (first | ((with_reducible refine gate_dst (N:=9) rfl ?_);refine Kd.R_make0 Kd.string _ 9 rfl (N:=9) rfl 82 _ _ rfl (e.length : Int) rfl rfl Tryz.underlying82 (.string ⟨#[]⟩) 16 infoSt rfl (by decide) (by omega) (⟨#[]⟩ : ByteArray) (ok:=fun _=>True) (okp:=fun _=>True) rfl (fun _ hk=>hk) trivial hl1 (Nat.le_trans (Nat.mul_le_mul_right _ hl2) (by omega)) (Below.refl _ _) (Nat.le_refl _) ?_;intro v0 w0 ho hb0 hg0 hn0;clear hg0 hn0;have HR0:=hidF ho;have HB0:=hidF hb0;clear ho hb0))
 go_loopw [3,12] (fun v3 v wr=>∃ i : Nat,v = .int .i64 (i : Int) ∧ i ≤ e.length ∧ Hid (Below w.heap.size w wr) ∧ Hid (Kd.R Kd.string 9 wr w.heap.size (fun _=>True) v3 (partsE (e.take i)))) (fun _ v _=>e.length - natOfV v)
 case atStart=>exact ⟨0,rfl,by omega,HB0,HR0⟩
 case round =>
  clear HR0 HB0
  obtain ⟨i,rfl,hil,HB,HR⟩:=hrel
  by_cases hlt : i < e.length
  ·obtain ⟨d,hd⟩ : ∃ d,e[i]? = some d:=⟨_,List.getElem?_eq_getElem hlt⟩
   have hdm:=HD.out d (List.mem_of_getElem? hd)
   have hzm:=HZ.out d (List.mem_of_getElem? hd)
   have rdd : rd_T41 e (i : Int) = d:=by
    unfold rd_T41
    simp only [Int.toNat_natCast,List.getD_eq_getElem?_getD]
    rw [hd];rfl
   obtain ⟨ad,ea,k0,k1,k2,k3,k4,k5⟩:=at_T41 (Kd.C_below HC.out HB.out) (i : Int) (by omega) (by omega)
   cases ea
   rw [rdd] at k0 k1 k2 k3 k4 k5
   simp only [Int.toNat_natCast] at k0 k1 k2 k3 k4 k5
   have hii : (i : Int) < (e.length : Int):=by omega
   have hwle:=HB.out.size
   have HP:=hidF (parts_take hd)
   have hpl : (partsE (e.take i)).length ≤ 1000000:=by rw [parts_len,List.length_take];omega
   obtain ⟨A1,c1,rfl⟩:=Kd.R_slice HR.out
   obtain ⟨W1,hW1⟩ : ∃ W1,wr.alloc (.cells #[.int .i64 d.f0,.int .i64 d.f1,.int .i64 d.f2.f0,.int .i64 d.f2.f1,.int .u64 d.f2.f2,.string d.f2.f3] 41) = W1:=⟨_,rfl⟩
   obtain ⟨D,hD⟩ : ∃ D,wr.heap.size = D:=⟨_,rfl⟩
   have HBa:=hidF (show Below w.heap.size w W1 by rw [← hW1];exact HB.out.alloc HB.out.size _)
   have HRa:=hidF (show Kd.R Kd.string 9 W1 w.heap.size (fun _=>True) _ (partsE (e.take i)) by rw [← hW1];exact Kd.R_alloc HR.out _)
   have m0 : W1.cell? ⟨D,0,none⟩ = some (.int .i64 d.f0):=by rw [← hW1,← hD];exact (blk_cell (heap_alloc_new _ _) 0).trans rfl
   have m1 : W1.cell? ⟨D,1,none⟩ = some (.int .i64 d.f1):=by rw [← hW1,← hD];exact (blk_cell (heap_alloc_new _ _) 1).trans rfl
   have m2 : W1.cell? ⟨D,2,none⟩ = some (.int .i64 d.f2.f0):=by rw [← hW1,← hD];exact (blk_cell (heap_alloc_new _ _) 2).trans rfl
   have m3 : W1.cell? ⟨D,3,none⟩ = some (.int .i64 d.f2.f1):=by rw [← hW1,← hD];exact (blk_cell (heap_alloc_new _ _) 3).trans rfl
   have m4 : W1.cell? ⟨D,4,none⟩ = some (.int .u64 d.f2.f2):=by rw [← hW1,← hD];exact (blk_cell (heap_alloc_new _ _) 4).trans rfl
   have m5 : W1.cell? ⟨D,5,none⟩ = some (.string d.f2.f3):=by rw [← hW1,← hD];exact (blk_cell (heap_alloc_new _ _) 5).trans rfl
   have HI0 : Hid (∀ W,ETab W → Calls Tryz.prog 50 #[.int .i64 d.f0] W fun e w'=>e = .returned (.string (codeS d)) ∧ Below W.heap.size W w'):=hidF fun W ht=>itoa_c d.f0 W hdm.1 ht.pow
   have HT1:=hidF (HTW.out.below HBa.out)
   by_cases h1 : d.f0 = 1 ∨ d.f0 = 2 ∨ d.f0 = 6
   ·have hz1:=stepS_size d h1
    have z1 : (9223372036854775807 < (codeS d).size + 1) = False:=eq_false (by omega)
    have z2 : (9223372036854775807 < (codeS d).size + 1 + (tailS d).size) = False:=eq_false (by omega)
    have HSt : Hid (stepS d = codeS d ++ ⟨#[58]⟩ ++ tailS d):=hidF (if_pos h1)
    have HX : Hid (∀ W,ETab W → (d.f0 = 1 → Calls Tryz.prog 51 #[.agg #[.int .i64 d.f2.f0,.int .i64 d.f2.f1,.int .u64 d.f2.f2,.string d.f2.f3]] W fun e w'=>e = .returned (.string (tailS d)) ∧ Below W.heap.size W w') ∧ (d.f0 ≠ 1 → Calls Tryz.prog 50 #[.int .i64 d.f1] W fun e w'=>e = .returned (.string (tailS d)) ∧ Below W.heap.size W w')):=hidF fun W ht=>by
     constructor
     ·intro h
      have : tailS d = ⟨(showL d.f2.f0 d.f2.f1 d.f2.f2 d.f2.f3).toArray⟩:=if_pos h
      rw [this];exact show_c _ _ _ _ W hdm.2.2.1 hdm.2.2.2 ht.pow ht.deB
     ·intro h
      have : tailS d = ⟨(Lib.itoa d.f1).toArray⟩:=by unfold tailS;rw [if_neg h,if_pos (by omega)]
      rw [this];exact itoa_c _ W hdm.2.1 ht.pow
    have key : Hid (∃ q1 q2 q6 : Bool,(d.f0 == 1) = q1 ∧ (d.f0 == 2) = q2 ∧ (d.f0 == 6) = q6 ∧ ((q1 = true ∧ d.f0 = 1) ∨ (q1 = false ∧ q2 = true ∧ d.f0 ≠ 1) ∨ (q1 = false ∧ q2 = false ∧ q6 = true ∧ d.f0 ≠ 1))):=hidF (by
     refine ⟨_,_,_,rfl,rfl,rfl, ?_⟩
     rcases h1 with h | h | h <;> rw [h] <;> simp)
    obtain ⟨q1,q2,q6,e1,e2,e6,hq⟩:=key.out
    clear hd rdd hdm hzm hz1 h1 key
    rcases hq with ⟨rfl,hq⟩ | ⟨rfl,rfl,hq⟩ | ⟨rfl,rfl,rfl,hq⟩
    all_goals
     have HQ:=hidF hq
     clear hq
     go_wp2_with (first
      | (go_at_call 50;(fail_if_success (have:=w1));((with_reducible refine (HI0.out W1 HT1.out).mono ?_);rintro en w1 ⟨rfl,hb1⟩;have n0:=keepC5 hb1 m0;have n1:=keepC5 hb1 m1;have n2:=keepC5 hb1 m2;have n3:=keepC5 hb1 m3;have n4:=keepC5 hb1 m4;have n5:=keepC5 hb1 m5;have HB1:=hidF (HBa.out.trans (hb1.mono HBa.out.size));have HR1:=hidF (Kd.R_below HRa.out hb1);have HT2:=hidF (HT1.out.below hb1);clear hb1))
      | (go_at_call 50;((with_reducible refine (((HX.out w1 HT2.out).2 HQ.out)).mono ?_);rintro en w2 ⟨rfl,hb2⟩;have HB2:=hidF (HB1.out.trans (hb2.mono HB1.out.size));have HR2:=hidF (Kd.R_below HR1.out hb2);clear hb2))
      | (go_at_call 51;((with_reducible refine (((HX.out w1 HT2.out).1 HQ.out)).mono ?_);rintro en w2 ⟨rfl,hb2⟩;have HB2:=hidF (HB1.out.trans (hb2.mono HB1.out.size));have HR2:=hidF (Kd.R_below HR1.out hb2);clear hb2))
      | ((with_reducible refine gate_builtin (b:=.append) (xs:=#[.tmp 37,.tmp 39]) rfl ?_);at_builtin;refine Kd.R_append Kd.string (w0:=w) w.heap.size ?h1 (.tmp 37) (.tmp 39) 82 9 (.string ⟨#[]⟩) 16 ?h2 ?h3 ?h4 ?h5 ?h6 ?h7 (.slice A1 (partsE (e.take i)).length c1) (partsE (e.take i)) (codeS d ++ ⟨#[58]⟩ ++ tailS d) [.string (codeS d ++ ⟨#[58]⟩ ++ tailS d)] (fun _=>True) (fun _=>False) ?h8 ?h9 ?aP ?hk ?aF ?aO ?aB ?aS ?aL ?_;(case h1=>exact rfl);(case h2=>exact rfl);(case h3=>exact Tryz.underlying82);(case h4=>exact infoSt);(case h5=>exact rfl);(case h6=>decide);(case h7=>omega);(case h8=>exact rfl);(case h9=>exact rfl);(case hk=>exact (fun _ hk=>hk.elim));(case aP=>exact rfl);(case aF=>exact (fun _ _=>trivial));(case aO=>exact HR2.out);(case aB=>exact HB2.out);(case aS=>exact HB2.out.size);(case aL=>omega);intro v1 w3 ho hb hg hat;have HO:=hidF ho;have HB3:=hidF hb;clear ho hb hg hat))
     go_roundw
     case rel=>exact ⟨i + 1,by go_num,by omega,HB3,hidF (by rw [HP.out,HSt.out];exact HO.out)⟩
     case measure=>simp [natOfV];omega
   ·have hz1:=stepS_size0 d h1
    have z1 : (9223372036854775807 < (codeS d).size + 1) = False:=eq_false (by omega)
    have HSt : Hid (stepS d = codeS d ++ ⟨#[58]⟩):=hidF (if_neg h1)
    have e1 : (d.f0 == 1) = false:=beq_eq_false_iff_ne.2 (fun h=>h1 (.inl h))
    have e2 : (d.f0 == 2) = false:=beq_eq_false_iff_ne.2 (fun h=>h1 (.inr (.inl h)))
    have e6 : (d.f0 == 6) = false:=beq_eq_false_iff_ne.2 (fun h=>h1 (.inr (.inr h)))
    clear hd rdd hdm hzm hz1 h1
    go_wp2_with (first
     | (go_at_call 50;(fail_if_success (have:=w1));((with_reducible refine (HI0.out W1 HT1.out).mono ?_);rintro en w1 ⟨rfl,hb1⟩;have n0:=keepC5 hb1 m0;have n1:=keepC5 hb1 m1;have n2:=keepC5 hb1 m2;have n3:=keepC5 hb1 m3;have n4:=keepC5 hb1 m4;have n5:=keepC5 hb1 m5;have HB1:=hidF (HBa.out.trans (hb1.mono HBa.out.size));have HR1:=hidF (Kd.R_below HRa.out hb1);clear hb1))
     | ((with_reducible refine gate_builtin (b:=.append) (xs:=#[.tmp 37,.tmp 39]) rfl ?_);at_builtin;refine Kd.R_append Kd.string (w0:=w) w.heap.size ?h1 (.tmp 37) (.tmp 39) 82 9 (.string ⟨#[]⟩) 16 ?h2 ?h3 ?h4 ?h5 ?h6 ?h7 (.slice A1 (partsE (e.take i)).length c1) (partsE (e.take i)) (codeS d ++ ⟨#[58]⟩) [.string (codeS d ++ ⟨#[58]⟩)] (fun _=>True) (fun _=>False) ?h8 ?h9 ?aP ?hk ?aF ?aO ?aB ?aS ?aL ?_;(case h1=>exact rfl);(case h2=>exact rfl);(case h3=>exact Tryz.underlying82);(case h4=>exact infoSt);(case h5=>exact rfl);(case h6=>decide);(case h7=>omega);(case h8=>exact rfl);(case h9=>exact rfl);(case hk=>exact (fun _ hk=>hk.elim));(case aP=>exact rfl);(case aF=>exact (fun _ _=>trivial));(case aO=>exact HR1.out);(case aB=>exact HB1.out);(case aS=>exact HB1.out.size);(case aL=>omega);intro v1 w3 ho hb hg hat;have HO:=hidF ho;have HB3:=hidF hb;clear ho hb hg hat))
    go_roundw
    case rel=>exact ⟨i + 1,by go_num,by omega,HB3,hidF (by rw [HP.out,HSt.out];exact HO.out)⟩
    case measure=>simp [natOfV];omega
  ·have hie : i = e.length:=by omega
   have HR2 : Hid (Kd.R Kd.string 9 wr w.heap.size (fun _=>True) _ (partsE e)):=hidF (by have:=HR.out;rwa [hie,List.take_of_length_le (Nat.le_refl _)] at this)
   obtain ⟨A1,c1,rfl⟩:=Kd.R_slice HR2.out
   obtain ⟨A2,c2,h2,h3,h4⟩:=Kd.R_reads HR2.out
   injection h2 with h5 h6 h7
   subst h5;subst h7
   have HRD:=hidF (And.intro h3 h4)
   have hii : ¬ (i : Int) < (e.length : Int):=by omega
   clear hie hlt hil HR h3 h4 h6
   go_wp2_with (go_at_call 52;((with_reducible refine (xJoin.calls A1 c1 (partsE e) ⟨#[32]⟩ r _ HRD.out.2 HRD.out.1 HJ.out).mono ?_);rintro en w1 ⟨rfl,hb1⟩;have HB1:=hidF (HB.out.trans (hb1.mono HB.out.size));clear hb1))
   exact bodyPost_ret (v:=.string r) (by simp [results,Tryz.results25,go_sem, *]) rfl ⟨rfl,HB1.out⟩
end Go.Proofs.YtakcjiinchghaaaGreatDoor
end
section
namespace Go.Proofs.YtakcjiinchghaaaGreatDoor
set_option linter.unusedVariables false
set_option linter.unusedSimpArgs false
open Go.RowKit Go.Proofs.YtakcjiinchghaaaGreatDoorW.PrintWords Go.Proofs.YtakcjiinchghaaaGreatDoorW.PrintLast PRW PRE
/-- numbers such as the machine has, the floats' too -/
def GoodU (x : Cel) : Prop:=GoodC x ∧ U64 x.v.f2
/-- what the document's Eval calls, in every world -/
structure RFn (r : List S29) : Prop where
 takes : ∀ (W : World) (d : S41),U64 d.f2.f2 → Calls Tryz.prog 39 #[.agg #[.int .i64 d.f0,.int .i64 d.f1,.int .i64 d.f2.f0,.int .i64 d.f2.f1,.int .u64 d.f2.f2,.string d.f2.f3],.int .i64 (r.length : Int)] W fun e w'=>e = .returned (.int .i64 (takesE (r.length : Int) d)) ∧ Below W.heap.size W w'
 least : ∀ (W : World) (a b : Int),Calls Tryz.prog 41 #[.int .i64 a,.int .i64 b] W fun e w'=>e = .returned (.int .i64 (leastE a b)) ∧ Below W.heap.size W w'
 one : ∀ (W : World) (d : S41) (a : Cel),GoodU a → a.e = 0 → Calls Tryz.prog 40 #[.int .i64 d.f0,.int .i64 d.f1,.agg #[.int .i64 a.v.f0,.int .i64 a.v.f1,.int .u64 a.v.f2,.string a.v.f3]] W fun e w'=>e = .returned (.tuple #[.agg #[.int .i64 (oneC d a).v.f0,.int .i64 (oneC d a).v.f1,.int .u64 (oneC d a).v.f2,.string (oneC d a).v.f3],.int .i64 (oneC d a).e]) ∧ Below W.heap.size W w'
 two : ∀ (W : World) (d : S41) (a b : Cel),GoodU a → GoodU b → leastE a.e b.e = 0 → Calls Tryz.prog 42 #[.int .i64 d.f0,.agg #[.int .i64 a.v.f0,.int .i64 a.v.f1,.int .u64 a.v.f2,.string a.v.f3],.agg #[.int .i64 b.v.f0,.int .i64 b.v.f1,.int .u64 b.v.f2,.string b.v.f3]] W fun e w'=>e = .returned (.tuple #[.agg #[.int .i64 (twoC d a b).v.f0,.int .i64 (twoC d a b).v.f1,.int .u64 (twoC d a b).v.f2,.string (twoC d a b).v.f3],.int .i64 (twoC d a b).e]) ∧ Below W.heap.size W w'
 gone : ∀ (d : S41) (a : Cel),GoodU a → GoodU (oneC d a)
 gtwo : ∀ (d : S41) (a b : Cel),GoodU a → GoodU b → GoodU (twoC d a b)
def toC (x : Cel) : S71:=⟨x.v,x.e⟩
/-- the row of cells that a stack is -/
def rowC (st : List Cel) : List S71:=(st.map toC).reverse
theorem rowC_len (st : List Cel) : (rowC st).length = st.length:=by unfold rowC;simp
theorem rowC_cons (x : Cel) (st : List Cel) : rowC (x :: st) = rowC st ++ [toC x]:=by unfold rowC;simp
theorem rowC_top (x : Cel) (st : List Cel) : (rowC (x :: st)).getD st.length z71 = toC x:=by
 rw [rowC_cons,List.getD_eq_getElem?_getD,List.getElem?_append_right (by rw [rowC_len];omega),rowC_len];simp
theorem rowC_sec (x y : Cel) (st : List Cel) : (rowC (x :: y :: st)).getD st.length z71 = toC y:=by
 rw [rowC_cons,rowC_cons,List.append_assoc,List.getD_eq_getElem?_getD,List.getElem?_append_right (by rw [rowC_len];omega),rowC_len];simp
theorem rowC_set (x y : Cel) (st : List Cel) : (rowC (x :: st)).set st.length (toC y) = rowC (y :: st):=by
 rw [rowC_cons,rowC_cons,List.set_append_right _ _ (by rw [rowC_len];omega),rowC_len];simp
theorem rowC_take (x : Cel) (st : List Cel) : (rowC (x :: st)).take st.length = rowC st:=by
 rw [rowC_cons,List.take_append_of_le_length (by rw [rowC_len];omega),List.take_of_length_le (by rw [rowC_len];omega)]
theorem infoRC : (Tryz.prog.info? 71).map (fun i=>(i.zero,i.size,i.bytes)) = some (some (.agg #[(.int .i64 0),(.int .i64 0),(.int .u64 0),(.string ⟨#[]⟩),(.int .i64 0)]),5,48):=by kernel_rfl
theorem keepC6 {W w1 : World} {p : Addr} {v : Value} (hb : Below W.heap.size W w1) (h : W.cell? p = some v) : w1.cell? p = some v:=(hb.cell (World.block_lt_of_cell? W _ h)).trans h
/-- the row at a world behind: an element's cells -/
theorem row_at {W0 w2 Wx : World} {g m c1 : Nat} {xs : List S71} (HR : Kd.R k71 71 w2 W0.heap.size (fun k=>k < w2.heap.size) (.slice (some ⟨g,0,none⟩) m c1) xs) (HQ : Below w2.heap.size w2 Wx) (q : Nat) (hq : q < m) (a : Cel) (ho : xs.getD q z71 = toC a) :
  Wx.cell? ⟨g,q * 5,none⟩ = some (.int .i64 a.v.f0) ∧ Wx.cell? ⟨g,q * 5 + 1,none⟩ = some (.int .i64 a.v.f1) ∧ Wx.cell? ⟨g,q * 5 + 2,none⟩ = some (.int .u64 a.v.f2) ∧ Wx.cell? ⟨g,q * 5 + 3,none⟩ = some (.string a.v.f3) ∧ Wx.cell? ⟨g,q * 5 + 4,none⟩ = some (.int .i64 a.e) ∧
  Wx.frozen? ⟨g,q * 5,none⟩ = false ∧ Wx.frozen? ⟨g,q * 5 + 1,none⟩ = false ∧ Wx.frozen? ⟨g,q * 5 + 2,none⟩ = false ∧ Wx.frozen? ⟨g,q * 5 + 3,none⟩ = false ∧ Wx.frozen? ⟨g,q * 5 + 4,none⟩ = false:=by
 obtain ⟨c,hcl,hM,hcc,hcf⟩:=Kd.R_elem (Kd.R_step HR (fun k hk _=>HQ.block k hk)) z71 (q : Int) (by omega) (by omega)
 simp only [Int.toNat_natCast] at hM hcc hcf
 rw [ho] at hM
 obtain rfl:=k71_openM hM
 exact ⟨hcc 0 _ rfl,hcc 1 _ rfl,hcc 2 _ rfl,hcc 3 _ rfl,hcc 4 _ rfl,hcf 0,hcf 1,hcf 2,hcf 3,hcf 4⟩
/-- an element of the row is written -/
theorem row_put {W0 w2 Wx : World} {g m c1 : Nat} {xs : List S71} (HB : Below W0.heap.size W0 w2) (HR : Kd.R k71 71 w2 W0.heap.size (fun k=>k < w2.heap.size) (.slice (some ⟨g,0,none⟩) m c1) xs) (hg : W0.heap.size ≤ g) (HQ : Below w2.heap.size w2 Wx) (q : Nat) (hq : q < m) (a : Cel) (ho : xs.getD q z71 = toC a) (y : Cel) :
  Below W0.heap.size W0 (((((Wx.setCell ⟨g,q * 5,none⟩ (.int .i64 y.v.f0)).setCell ⟨g,q * 5 + 1,none⟩ (.int .i64 y.v.f1)).setCell ⟨g,q * 5 + 2,none⟩ (.int .u64 y.v.f2)).setCell ⟨g,q * 5 + 3,none⟩ (.string y.v.f3)).setCell ⟨g,q * 5 + 4,none⟩ (.int .i64 y.e)) ∧ Kd.R k71 71 (((((Wx.setCell ⟨g,q * 5,none⟩ (.int .i64 y.v.f0)).setCell ⟨g,q * 5 + 1,none⟩ (.int .i64 y.v.f1)).setCell ⟨g,q * 5 + 2,none⟩ (.int .u64 y.v.f2)).setCell ⟨g,q * 5 + 3,none⟩ (.string y.v.f3)).setCell ⟨g,q * 5 + 4,none⟩ (.int .i64 y.e)) W0.heap.size (fun _=>True) (.slice (some ⟨g,0,none⟩) m c1) (xs.set q (toC y)):=by
 have h:=Kd.R_step HR (w1:=Wx) (fun k hk _=>HQ.block k hk)
 obtain ⟨c,hcl,hM,hcc,hcf⟩:=Kd.R_elem h z71 (q : Int) (by omega) (by omega)
 simp only [Int.toNat_natCast] at hM hcc hcf
 rw [ho] at hM
 obtain rfl:=k71_openM hM
 have p:=Kd.R_seg h (q : Int) (by omega) (by omega) (c:=_) (seg:=[.int .i64 y.v.f0,.int .i64 y.v.f1,.int .u64 y.v.f2,.string y.v.f3,.int .i64 y.e]) (j:=0) hcl hcc (by show 0 + 5 ≤ 5;omega) (x':=toC y) (okp:=fun k=>k < w2.heap.size ∧ k ≠ g) (k71_mkM _ _ _ _) (fun _ h=>h)
 exact ⟨(HB.trans (HQ.mono HB.size)).grown p.2 (Nat.le_trans HB.size HQ.size) (fun k hk=>by cases hk;exact hg),Kd.R_mono p.1 (fun _ _=>trivial)⟩
set_option maxRecDepth 100000 in
set_option maxHeartbeats 8000000 in
theorem reval_run (A : Option Addr) (c : Nat) (e : List S41) (A' : Option Addr) (c' : Nat) (r : List S29) (w : World) (hC : Kd.C k41 w A e.length e) (hC' : Kd.C k29 w A' r.length r)
  (hF : RFn r) (hl : e.length ≤ 4000) (hs : mh (takesE (r.length : Int)) e 0 = some 1) (hr : ∀ x ∈ r,I64 x.f1 ∧ U64 x.f2) (hd : ∀ d ∈ e,I64 d.f2.f1 ∧ U64 d.f2.f2) (x : Cel) (hx : runC r e [] = [x])
  (hRS : ∀ W,Below w.heap.size w W → Calls Tryz.prog 38 #[.slice A' r.length c'] W fun e w'=>e = .returned (.bool true) ∧ Below W.heap.size W w')
  (hES : ∀ W,Below w.heap.size w W → Calls Tryz.prog 14 #[.slice A e.length c,.int .i64 (r.length : Int)] W fun e w'=>e = .returned (.bool true) ∧ Below W.heap.size W w') :
  Calls Tryz.prog 12 #[.slice A e.length c,.slice A' r.length c'] w fun en w'=>en = .returned (.tuple #[.agg #[.int .i64 (if x.e = 0 then x.v else zV).f0,.int .i64 (if x.e = 0 then x.v else zV).f1,.int .u64 (if x.e = 0 then x.v else zV).f2,.string (if x.e = 0 then x.v else zV).f3],.int .i64 x.e]) ∧ Below w.heap.size w w':=by
 have HC:=hidF hC
 have HC':=hidF hC'
 have HF:=hidF hF
 have HS:=hidF hs
 have HRR:=hidF hr
 have HDD:=hidF hd
 have HX:=hidF hx
 have HRS:=hidF hRS
 have HES:=hidF hES
 clear hC hC' hF hs hr hd hx hRS hES
 obtain ⟨W0,hW0⟩ : ∃ W0,w.alloc (.cells #[.int .i64 0,.int .i64 0,.int .u64 0,.string ⟨#[]⟩] 29) = W0:=⟨_,rfl⟩
 obtain ⟨z,hz⟩ : ∃ z,w.heap.size = z:=⟨_,rfl⟩
 have HB0:=hidF (show Below w.heap.size w W0 by rw [← hW0];exact below_box w _)
 have hsz : W0.heap.size = z + 1:=by rw [← hW0,← hz];simp
 go_enter Tryz.func12,Tryz.ntmps12
 go_wp2_with (first
  | (go_at_call 38;((with_reducible refine (HRS.out _ HB0.out).mono ?_);rintro en w1 ⟨rfl,hb1⟩;have HB1:=hidF hb1;clear hb1))
  | (go_at_call 14;((with_reducible refine (HES.out _ (HB0.out.trans (HB1.out.mono HB0.out.size))).mono ?_);rintro en w2 ⟨rfl,hb2⟩;have HB2:=hidF (HB1.out.trans (hb2.mono HB1.out.size));clear hb2))
  | ((with_reducible refine gate_dst (N:=30) rfl ?_);refine Kd.R_lit k71 W0.heap.size 71 ?hg (N:=30) ?hd (xs:=([] : List S71)) (inner:=[]) (ok:=fun _=>True) (okp:=fun _=>True) ?hr ?hp (fun _ hk=>hk) trivial HB2.out HB2.out.size (by simp) ?_;(case hd=>rfl);(case hg=>rfl);(case hr=>first | (go_simp;done) | (go_simp;rfl));(case hp=>exact Reps.none _ _);intro v0 w3 ho hb hg hn;clear hg hn;have HR0:=hidF ho;have HB3:=hidF hb;clear ho hb))
 clear HB1 HB2 HRS HES
 go_loopw [6,7] (fun v6 v wr=>∃ i : Nat,v = .int .i64 (i : Int) ∧ i ≤ e.length ∧ Hid (Below W0.heap.size W0 wr) ∧ Hid (Kd.R k71 71 wr W0.heap.size (fun _=>True) v6 (rowC (runC r (e.take i) []))) ∧ Hid (∀ y ∈ runC r (e.take i) [],GoodU y)) (fun _ v _=>e.length - natOfV v)
 case atStart=>exact ⟨0,rfl,by omega,HB3,HR0,hidF (fun y hy=>by cases hy)⟩
 case round =>
  clear HR0 HB3
  obtain ⟨i,rfl,hil,HB,HR,HG⟩:=hrel
  by_cases hlt : i < e.length
  ·obtain ⟨d,hd⟩ : ∃ d,e[i]? = some d:=⟨_,List.getElem?_eq_getElem hlt⟩
   have hdm:=HDD.out d (List.mem_of_getElem? hd)
   obtain ⟨sl,snx,scs⟩:=sound_at (n0:=noneC r) (n1:=oneC) (n2:=twoC) (takes_ok (r.length : Int)) HS.out i d hd
   have rdd : rd_T41 e (i : Int) = d:=by
    unfold rd_T41
    simp only [Int.toNat_natCast,List.getD_eq_getElem?_getD]
    rw [hd];rfl
   have HBw:=hidF (HB0.out.trans (HB.out.mono HB0.out.size))
   obtain ⟨ad,ea,k0,k1,k2,k3,k4,k5⟩:=at_T41 (Kd.C_below HC.out HBw.out) (i : Int) (by omega) (by omega)
   cases ea
   rw [rdd] at k0 k1 k2 k3 k4 k5
   simp only [Int.toNat_natCast] at k0 k1 k2 k3 k4 k5
   have hii : (i : Int) < (e.length : Int):=by omega
   have SNX : Hid (runC r (e.take (i + 1)) [] = mstep (fun d=>d.f0) (noneC r) oneC twoC (runC r (e.take i) []) d):=hidF snx
   obtain ⟨st,hst⟩ : ∃ st,runC r (e.take i) [] = st:=⟨_,rfl⟩
   have scs':=scs
   rw [show mrun (fun d=>d.f0) (noneC r) oneC twoC (e.take i) [] = st from hst] at scs' sl
   rw [hst] at HR HG SNX
   have slen : st.length ≤ 4000:=Nat.le_trans sl (by omega)
   have hrl : (rowC st).length ≤ 4000:=by rw [rowC_len];exact slen
   have HTK:=hidF (HF.out.takes · d hdm.2)
   have HLT:=hidF hlt
   have HDM:=hidF hdm
   obtain ⟨W1,hW1⟩ : ∃ W1,wr.alloc (.cells #[.int .i64 d.f0,.int .i64 d.f1,.int .i64 d.f2.f0,.int .i64 d.f2.f1,.int .u64 d.f2.f2,.string d.f2.f3] 41) = W1:=⟨_,rfl⟩
   obtain ⟨D,hD⟩ : ∃ D,wr.heap.size = D:=⟨_,rfl⟩
   have hDz : W0.heap.size ≤ D:=by rw [← hD];exact HB.out.size
   have HBa:=hidF (show Below W0.heap.size W0 W1 by rw [← hW1];exact HB.out.alloc HB.out.size _)
   have m0 : W1.cell? ⟨D,0,none⟩ = some (.int .i64 d.f0):=by rw [← hW1,← hD];exact (blk_cell (heap_alloc_new _ _) 0).trans rfl
   have m1 : W1.cell? ⟨D,1,none⟩ = some (.int .i64 d.f1):=by rw [← hW1,← hD];exact (blk_cell (heap_alloc_new _ _) 1).trans rfl
   have m2 : W1.cell? ⟨D,2,none⟩ = some (.int .i64 d.f2.f0):=by rw [← hW1,← hD];exact (blk_cell (heap_alloc_new _ _) 2).trans rfl
   have m3 : W1.cell? ⟨D,3,none⟩ = some (.int .i64 d.f2.f1):=by rw [← hW1,← hD];exact (blk_cell (heap_alloc_new _ _) 3).trans rfl
   have m4 : W1.cell? ⟨D,4,none⟩ = some (.int .u64 d.f2.f2):=by rw [← hW1,← hD];exact (blk_cell (heap_alloc_new _ _) 4).trans rfl
   have m5 : W1.cell? ⟨D,5,none⟩ = some (.string d.f2.f3):=by rw [← hW1,← hD];exact (blk_cell (heap_alloc_new _ _) 5).trans rfl
   have HRa:=hidF (show Kd.R k71 71 W1 W0.heap.size (fun _=>True) _ (rowC st) by rw [← hW1];exact Kd.R_alloc HR.out _)
   obtain ⟨A1,c1,rfl⟩:=Kd.R_slice HRa.out
   clear hd rdd snx sl scs hst hlt hdm
   rcases scs' with ⟨t0,t1,t2⟩ | ⟨t0,t1,t1',a,t,t2,t3⟩ | ⟨t0,t1,a,b,t,t2,t3⟩
   ·have hw0 : d.f0 = 2 → 0 ≤ d.f1 ∧ d.f1 < (r.length : Int):=fun h2=>by
     unfold takesE at t0
     split at t0
     ·rename_i h;rcases h with h | h
      ·omega
      ·exact h.2
     ·split at t0
      ·cases t0
      ·split at t0 <;> cases t0
    rw [t0] at HTK
    have HSN : Hid (runC r (e.take (i + 1)) [] = noneC r d :: st):=hidF (SNX.out.trans t2)
    obtain ⟨y,hy⟩ : ∃ y,(noneC r d).v = y:=⟨_,rfl⟩
    have HNC : Hid (toC (noneC r d) = ⟨y,0⟩):=hidF (by unfold toC;rw [hy];rfl)
    have HG2 : Hid (∀ y ∈ runC r (e.take (i + 1)) [],GoodU y):=hidF (fun y hy=>by
     rw [HSN.out] at hy
     rcases List.mem_cons.1 hy with rfl | hy
     ·unfold noneC
      by_cases h2 : d.f0 = 2
      ·have:=HRR.out _ (rd_mem r d.f1 (hw0 h2).1 (hw0 h2).2)
       refine ⟨⟨?_,.inl rfl⟩, ?_⟩
       ·rw [if_pos h2];exact this.1
       ·rw [if_pos h2];exact this.2
      ·refine ⟨⟨?_,.inl rfl⟩, ?_⟩
       ·rw [if_neg h2];exact HDM.out.1
       ·rw [if_neg h2];exact HDM.out.2
     ·exact HG.out y hy)
    by_cases h2 : d.f0 = 2
    ·have e2 : (d.f0 == 2) = true:=beq_iff_eq.2 h2
     obtain ⟨bd,eb,j0,j1,j2,j3⟩:=at_T29 HC'.out d.f1 (hw0 h2).1 (hw0 h2).2
     cases eb
     have hyr : rd_T29 r d.f1 = y:=by rw [← hy];unfold noneC;rw [if_pos h2]
     rw [hyr] at j0 j1 j2 j3
     obtain ⟨q0,q1⟩:=hw0 h2
     clear t0 t1 t2 hy h2 hw0 hyr
     go_wp2_with (first
      | (go_at_call 39;((with_reducible refine (HTK.out W1).mono ?_);rintro en w2 ⟨rfl,hb2⟩;have n0:=keepC6 hb2 m0;have n1:=keepC6 hb2 m1;have n2:=keepC6 hb2 m2;have n3:=keepC6 hb2 m3;have n4:=keepC6 hb2 m4;have n5:=keepC6 hb2 m5;have hDl : D < w2.heap.size:=World.block_lt_of_cell? w2 _ n0;have hDn : ¬ D = w2.heap.size:=(by omega);have hDn' : ¬ w2.heap.size = D:=(by omega);have HB2:=hidF (HBa.out.trans (hb2.mono HBa.out.size));have HR2:=hidF (Kd.R_below HRa.out hb2);have HBx:=hidF (HB0.out.trans (HB2.out.mono HB0.out.size));have g0:=keepC6 HBx.out j0;have g1:=keepC6 HBx.out j1;have g2:=keepC6 HBx.out j2;have g3:=keepC6 HBx.out j3;have gl:=World.block_lt_of_cell? w2 _ g0;have gn : ¬ (bd.add (d.f1.toNat * 4)).block = w2.heap.size:=(by omega);have gn' : ¬ w2.heap.size = (bd.add (d.f1.toNat * 4)).block:=(by omega);clear hb2))
      | ((with_reducible refine gate_builtin (b:=.append) (xs:=#[.tmp 100,.tmp 103]) rfl ?_);at_builtin;refine Kd.R_append k71 (w0:=W0) W0.heap.size ?h1 (.tmp 100) (.tmp 103) 68 71 (.agg #[(.int .i64 0),(.int .i64 0),(.int .u64 0),(.string ⟨#[]⟩),(.int .i64 0)]) 48 ?h2 ?h3 ?h4 ?h5 ?h6 ?h7 (.slice A1 (rowC st).length c1) (rowC st) (⟨y,0⟩ : S71) [.int .i64 y.f0,.int .i64 y.f1,.int .u64 y.f2,.string y.f3,.int .i64 0] (fun _=>True) (fun _=>False) ?h8 ?h9 ?aP ?hk ?aF ?aO ?aB ?aS ?aL ?_;(case h1=>exact rfl);(case h2=>exact rfl);(case h3=>exact Tryz.underlying68);(case h4=>exact infoRC);(case h5=>exact rfl);(case h6=>decide);(case h7=>omega);(case h8=>exact rfl);(case h9=>first | exact rfl | (go_simp;done));(case hk=>exact (fun _ hk=>hk.elim));(case aP=>exact k71_mkM _ _ _ _);(case aF=>exact (fun _ _=>trivial));(case aO=>exact Kd.R_alloc HR2.out _);(case aB=>exact HB2.out.alloc HB2.out.size _);(case aS=>exact (HB2.out.alloc HB2.out.size _).size);(case aL=>omega);intro v1 w3 ho hb hg hat;have HO:=hidF ho;have HB4:=hidF hb;clear ho hb hg hat))
     go_roundw
     case rel=>exact ⟨i + 1,by go_num,by have:=HLT.out;omega,HB4,hidF (by rw [HSN.out,rowC_cons,HNC.out];exact HO.out),HG2⟩
     case measure=>have:=HLT.out;simp [natOfV];omega
    ·have e2 : (d.f0 == 2) = false:=beq_eq_false_iff_ne.2 h2
     have hyr : y = d.f2:=by rw [← hy];unfold noneC;rw [if_neg h2]
     subst hyr
     clear t0 t1 t2 hy h2 hw0
     go_wp2_with (first
      | (go_at_call 39;((with_reducible refine (HTK.out W1).mono ?_);rintro en w2 ⟨rfl,hb2⟩;have n0:=keepC6 hb2 m0;have n1:=keepC6 hb2 m1;have n2:=keepC6 hb2 m2;have n3:=keepC6 hb2 m3;have n4:=keepC6 hb2 m4;have n5:=keepC6 hb2 m5;have hDl : D < w2.heap.size:=World.block_lt_of_cell? w2 _ n0;have hDn : ¬ D = w2.heap.size:=(by omega);have hDn' : ¬ w2.heap.size = D:=(by omega);have HB2:=hidF (HBa.out.trans (hb2.mono HBa.out.size));have HR2:=hidF (Kd.R_below HRa.out hb2);clear hb2))
      | ((with_reducible refine gate_builtin (b:=.append) (xs:=#[.tmp 100,.tmp 103]) rfl ?_);at_builtin;refine Kd.R_append k71 (w0:=W0) W0.heap.size ?h1 (.tmp 100) (.tmp 103) 68 71 (.agg #[(.int .i64 0),(.int .i64 0),(.int .u64 0),(.string ⟨#[]⟩),(.int .i64 0)]) 48 ?h2 ?h3 ?h4 ?h5 ?h6 ?h7 (.slice A1 (rowC st).length c1) (rowC st) (⟨d.f2,0⟩ : S71) [.int .i64 d.f2.f0,.int .i64 d.f2.f1,.int .u64 d.f2.f2,.string d.f2.f3,.int .i64 0] (fun _=>True) (fun _=>False) ?h8 ?h9 ?aP ?hk ?aF ?aO ?aB ?aS ?aL ?_;(case h1=>exact rfl);(case h2=>exact rfl);(case h3=>exact Tryz.underlying68);(case h4=>exact infoRC);(case h5=>exact rfl);(case h6=>decide);(case h7=>omega);(case h8=>exact rfl);(case h9=>first | exact rfl | (go_simp;done));(case hk=>exact (fun _ hk=>hk.elim));(case aP=>exact k71_mkM _ _ _ _);(case aF=>exact (fun _ _=>trivial));(case aO=>exact Kd.R_alloc HR2.out _);(case aB=>exact HB2.out.alloc HB2.out.size _);(case aS=>exact (HB2.out.alloc HB2.out.size _).size);(case aL=>omega);intro v1 w3 ho hb hg hat;have HO:=hidF ho;have HB4:=hidF hb;clear ho hb hg hat))
     go_roundw
     case rel=>exact ⟨i + 1,by go_num,by have:=HLT.out;omega,HB4,hidF (by rw [HSN.out,rowC_cons,HNC.out];exact HO.out),HG2⟩
     case measure=>have:=HLT.out;simp [natOfV];omega
   ·subst t2
    have tl : t.length ≤ 3999:=by have:=slen;simp at this;omega
    obtain ⟨q,hq⟩ : ∃ q,t.length = q:=⟨_,rfl⟩
    obtain ⟨m,hm⟩ : ∃ m,q + 1 = m:=⟨_,rfl⟩
    have hL : (rowC (a :: t)).length = m:=by rw [rowC_len,← hm,← hq];rfl
    have HRb : Hid (Kd.R k71 71 W1 W0.heap.size (fun _=>True) (.slice A1 m c1) (rowC (a :: t))):=hidF (by have:=HRa.out;rwa [hL] at this)
    obtain ⟨g,cap,hv,hg,hgl,_⟩:=Kd.R_form HRb.out (by rw [hL];omega)
    have hw : wrap64 ((m : Int) - 1) = (q : Int):=by unfold wrap64;omega
    have hqm : (q : Int) < (m : Int):=by omega
    have hmq : m - 1 = q:=by omega
    have hwi : IntKind.i64.wrap ((m : Int) - 1) = (q : Int):=by rw [IntKind.wrap_i64];omega
    have hqn : q < m:=by omega
    have hqn2 : ¬ m ≤ q:=by omega
    have hqn3 : ¬ (m : Int) ≤ (q : Int):=by omega
    have hm0 : 0 < m:=by omega
    have hi0 : (0 : Int) ≤ (m : Int) - 1:=by omega
    have hi1 : (m : Int) - 1 < (m : Int):=by omega
    have hi3 : 1 ≤ m:=by omega
    have hi4 : (1 : Int) ≤ (m : Int):=by omega
    have HQ:=hidF hq
    have htop : (rowC (a :: t)).getD q z71 = toC a:=by rw [← hq];exact rowC_top a t
    injection hv with hv1 hv2 hv3
    subst hv1;subst hv3
    rw [t0] at HTK
    have ga : GoodU a:=HG.out a (by simp)
    have HGA:=hidF ga
    have HSN : Hid (runC r (e.take (i + 1)) [] = oneC d a :: t):=hidF (SNX.out.trans t3)
    have HG2 : Hid (∀ y ∈ runC r (e.take (i + 1)) [],GoodU y):=hidF (fun y hy=>by
     rw [HSN.out] at hy
     rcases List.mem_cons.1 hy with rfl | hy
     ·exact HF.out.gone d a HGA.out
     ·exact HG.out y (List.mem_cons_of_mem _ hy))
    have HTOP:=hidF htop
    clear htop t0 t1 t1' t3 ga slen hv2 hq hm tl
    by_cases he : a.e = 0
    ·have e4 : (a.e == 0) = true:=beq_iff_eq.2 he
     obtain ⟨y,hy⟩ : ∃ y,oneC d a = y:=⟨_,rfl⟩
     have HON : Hid (∀ W,Calls Tryz.prog 40 #[.int .i64 d.f0,.int .i64 d.f1,.agg #[.int .i64 a.v.f0,.int .i64 a.v.f1,.int .u64 a.v.f2,.string a.v.f3]] W fun e w'=>e = .returned (.tuple #[.agg #[.int .i64 y.v.f0,.int .i64 y.v.f1,.int .u64 y.v.f2,.string y.v.f3],.int .i64 y.e]) ∧ Below W.heap.size W w'):=hidF fun W=>by rw [← hy];exact HF.out.one W d a HGA.out he
     rw [hy] at HSN
     clear hy he
     go_wp2_with (first
      | (go_at_call 39;((with_reducible refine (HTK.out W1).mono ?_);rintro en w2 ⟨rfl,hb2⟩;have n0:=keepC6 hb2 m0;have n1:=keepC6 hb2 m1;have n2:=keepC6 hb2 m2;have n3:=keepC6 hb2 m3;have n4:=keepC6 hb2 m4;have n5:=keepC6 hb2 m5;have hDl : D < w2.heap.size:=World.block_lt_of_cell? w2 _ n0;have hDn : ¬ D = w2.heap.size:=Nat.ne_of_lt hDl;have hDn' : ¬ w2.heap.size = D:=(Nat.ne_of_lt hDl).symm;have HB2:=hidF (HBa.out.trans (hb2.mono HBa.out.size));have HRl:=hidF (Kd.R_mono (Kd.R_bound (Kd.R_below HRb.out hb2)) (ok':=fun k=>k < w2.heap.size) (fun k hk=>hk.2.2.1));obtain ⟨x0,x1,x2,x3,x4,_⟩:=row_at HRl.out (Below.refl _ _) q hqn a HTOP.out;have hgl2 : g < w2.heap.size:=World.block_lt_of_cell? w2 _ x0;have hgn2 : ¬ g = w2.heap.size:=Nat.ne_of_lt hgl2;have hgn3 : ¬ w2.heap.size = g:=(Nat.ne_of_lt hgl2).symm;clear hb2)))
     clear k0 k1 k2 k3 k4 k5 m0 m1 m2 m3 m4 m5 n2 n3 n4 n5 hgl hrl
     go_region_held3 (fun (v : World)=>v.cell? ⟨D,0,none⟩ = some (.int .i64 d.f0) ∧ v.cell? ⟨D,1,none⟩ = some (.int .i64 d.f1) ∧ v.cell? ⟨g,q * 5,none⟩ = some (.int .i64 a.v.f0) ∧ v.cell? ⟨g,q * 5 + 1,none⟩ = some (.int .i64 a.v.f1) ∧ v.cell? ⟨g,q * 5 + 2,none⟩ = some (.int .u64 a.v.f2) ∧ v.cell? ⟨g,q * 5 + 3,none⟩ = some (.string a.v.f3)) (go_keep) (first
      | (go_at_call 40;(with_reducible refine (HON.out w2.drew).mono ?_);rintro en w3 ⟨rfl,hb3⟩;replace hb3 : Below w2.heap.size w2 w3:=below_undrew hb3;have HQ3:=hidF hb3;have p0:=keepC6 hb3 n0;have p1:=keepC6 hb3 n1;have y0:=keepC6 hb3 x0;have y1:=keepC6 hb3 x1;have y2:=keepC6 hb3 x2;have y3:=keepC6 hb3 x3;have hg3 : g < w3.heap.size:=Nat.lt_of_lt_of_le hgl2 hb3.size;have hgn : ¬ g = w3.heap.size:=Nat.ne_of_lt hg3;have hgn' : ¬ w3.heap.size = g:=(Nat.ne_of_lt hg3).symm;have hD3 : D < w3.heap.size:=Nat.lt_of_lt_of_le hDl hb3.size;have hDn3 : ¬ D = w3.heap.size:=Nat.ne_of_lt hD3;have hDn3' : ¬ w3.heap.size = D:=(Nat.ne_of_lt hD3).symm;clear hb3)
      | (go_at_call 40;(with_reducible refine (HON.out (w2.alloc (.cells #[.int .i64 0,.int .i64 0,.int .u64 0,.string ⟨#[]⟩] 29)).drew).mono ?_);rintro en w3 ⟨rfl,hb3'⟩;replace hb3' : Below (w2.alloc (.cells #[.int .i64 0,.int .i64 0,.int .u64 0,.string ⟨#[]⟩] 29)).heap.size (w2.alloc (.cells #[.int .i64 0,.int .i64 0,.int .u64 0,.string ⟨#[]⟩] 29)) w3:=below_undrew hb3';have hsa : (w2.alloc (.cells #[.int .i64 0,.int .i64 0,.int .u64 0,.string ⟨#[]⟩] 29)).heap.size = w2.heap.size + 1:=(by simp);have hb3 : Below w2.heap.size w2 w3:=(below_box w2 _).trans (hb3'.mono (by rw [hsa];exact Nat.le_succ _));have HQ3:=hidF hb3;have b0 : w3.cell? ⟨w2.heap.size,0,none⟩ = some (.int .i64 0):=keepC6 hb3' ((blk_cell (heap_alloc_new w2 _) 0).trans rfl);have b1 : w3.cell? ⟨w2.heap.size,1,none⟩ = some (.int .i64 0):=keepC6 hb3' ((blk_cell (heap_alloc_new w2 _) 1).trans rfl);have b2 : w3.cell? ⟨w2.heap.size,2,none⟩ = some (.int .u64 0):=keepC6 hb3' ((blk_cell (heap_alloc_new w2 _) 2).trans rfl);have b3 : w3.cell? ⟨w2.heap.size,3,none⟩ = some (.string ⟨#[]⟩):=keepC6 hb3' ((blk_cell (heap_alloc_new w2 _) 3).trans rfl);have bf : ∀ j,w3.frozen? ⟨w2.heap.size,j,none⟩ = false:=fun j=>(hb3'.frozen (p:=⟨w2.heap.size,j,none⟩) (by show w2.heap.size < _;rw [hsa];exact Nat.lt_succ_self _)).trans (blk_frozen (heap_alloc_new w2 _) j);have bf0:=bf 0;have bf1:=bf 1;have bf2:=bf 2;have bf3:=bf 3;clear bf hsa hb3';have p0:=keepC6 hb3 n0;have p1:=keepC6 hb3 n1;have y0:=keepC6 hb3 x0;have y1:=keepC6 hb3 x1;have y2:=keepC6 hb3 x2;have y3:=keepC6 hb3 x3;clear hb3))
     ·obtain ⟨Wx,hWx⟩ : ∃ Wx,w3.alloc (.cells #[.int .i64 y.v.f0,.int .i64 y.v.f1,.int .u64 y.v.f2,.string y.v.f3] 29) = Wx:=⟨_,rfl⟩
      obtain ⟨ns,hns⟩ : ∃ ns,w3.heap.size = ns:=⟨_,rfl⟩
      have c0 : Wx.cell? ⟨ns,0,none⟩ = some (.int .i64 y.v.f0):=by rw [← hWx,← hns];exact (blk_cell (heap_alloc_new _ _) 0).trans rfl
      have c1' : Wx.cell? ⟨ns,1,none⟩ = some (.int .i64 y.v.f1):=by rw [← hWx,← hns];exact (blk_cell (heap_alloc_new _ _) 1).trans rfl
      have c2 : Wx.cell? ⟨ns,2,none⟩ = some (.int .u64 y.v.f2):=by rw [← hWx,← hns];exact (blk_cell (heap_alloc_new _ _) 2).trans rfl
      have c3 : Wx.cell? ⟨ns,3,none⟩ = some (.string y.v.f3):=by rw [← hWx,← hns];exact (blk_cell (heap_alloc_new _ _) 3).trans rfl
      have HQx:=hidF (show Below w2.heap.size w2 Wx by rw [← hWx];exact HQ3.out.alloc HQ3.out.size _)
      rw [hns] at hgn hgn'
      rw [hWx,hns]
      clear hWx hns hg3 x0 x1 x2 x3 x4 y0 y1 y2 y3 n0 n1 p0 p1 hD3 hDn3 hDn3'
      obtain ⟨z0,z1,z2,z3,z4,e0,e1,e2,e3,e5⟩:=row_at HRl.out HQx.out q hqn a HTOP.out
      go_wp2
      go_roundw
      have HP:=hidF (row_put HB2.out HRl.out hg HQx.out q hqn a HTOP.out y)
      case rel=>exact ⟨i + 1,by go_num,by have:=HLT.out;omega,hidF HP.out.1,hidF (by rw [HSN.out,← rowC_set a y t,HQ.out];exact HP.out.2),HG2⟩
      case measure=>have:=HLT.out;simp [natOfV];omega
     ·obtain ⟨Wx,hWx,c0,c1',c2,c3⟩ : ∃ Wx,(((w3.setCell ⟨w2.heap.size,0,none⟩ (.int .i64 y.v.f0)).setCell ⟨w2.heap.size,1,none⟩ (.int .i64 y.v.f1)).setCell ⟨w2.heap.size,2,none⟩ (.int .u64 y.v.f2)).setCell ⟨w2.heap.size,3,none⟩ (.string y.v.f3) = Wx ∧ Wx.cell? ⟨w2.heap.size,0,none⟩ = some (.int .i64 y.v.f0) ∧ Wx.cell? ⟨w2.heap.size,1,none⟩ = some (.int .i64 y.v.f1) ∧ Wx.cell? ⟨w2.heap.size,2,none⟩ = some (.int .u64 y.v.f2) ∧ Wx.cell? ⟨w2.heap.size,3,none⟩ = some (.string y.v.f3):=⟨_,rfl,by go_simp,by go_simp,by go_simp,by go_simp⟩
      have HQx:=hidF (show Below w2.heap.size w2 Wx by rw [← hWx];exact (((HQ3.out.setCell (Nat.le_refl _) _).setCell (Nat.le_refl _) _).setCell (Nat.le_refl _) _).setCell (Nat.le_refl _) _)
      obtain ⟨ns,hns⟩ : ∃ ns,w2.heap.size = ns:=⟨_,rfl⟩
      rw [hns] at c0 c1' c2 c3 hgn2 hgn3
      rw [hWx,hns]
      clear hWx b0 b1 b2 b3 bf0 bf1 bf2 bf3 x0 x1 x2 x3 x4 y0 y1 y2 y3 n0 n1 p0 p1 hDn hDn' hns
      obtain ⟨z0,z1,z2,z3,z4,e0,e1,e2,e3,e5⟩:=row_at HRl.out HQx.out q hqn a HTOP.out
      go_wp2
      go_roundw
      have HP:=hidF (row_put HB2.out HRl.out hg HQx.out q hqn a HTOP.out y)
      case rel=>exact ⟨i + 1,by go_num,by have:=HLT.out;omega,hidF HP.out.1,hidF (by rw [HSN.out,← rowC_set a y t,HQ.out];exact HP.out.2),HG2⟩
      case measure=>have:=HLT.out;simp [natOfV];omega
    ·have e4 : (a.e == 0) = false:=beq_eq_false_iff_ne.2 he
     have HSN2 : Hid (runC r (e.take (i + 1)) [] = a :: t):=hidF (by rw [HSN.out];unfold oneC;rw [if_pos he])
     clear he
     go_wp2_with (first
      | (go_at_call 39;((with_reducible refine (HTK.out W1).mono ?_);rintro en w2 ⟨rfl,hb2⟩;have n0:=keepC6 hb2 m0;have n1:=keepC6 hb2 m1;have n2:=keepC6 hb2 m2;have n3:=keepC6 hb2 m3;have n4:=keepC6 hb2 m4;have n5:=keepC6 hb2 m5;have hDl : D < w2.heap.size:=World.block_lt_of_cell? w2 _ n0;have hDn : ¬ D = w2.heap.size:=Nat.ne_of_lt hDl;have hDn' : ¬ w2.heap.size = D:=(Nat.ne_of_lt hDl).symm;have HB2:=hidF (HBa.out.trans (hb2.mono HBa.out.size));have HR2:=hidF (Kd.R_below HRb.out hb2);obtain ⟨cs,hcl,hM,hcc,hcf⟩:=Kd.R_elem HR2.out z71 (q : Int) (Int.natCast_nonneg _) hqm;simp only [Int.toNat_natCast] at hM hcc hcf;rw [HTOP.out] at hM;obtain rfl:=k71_openM hM;have x0 : w2.cell? ⟨g,q * 5,none⟩ = some (.int .i64 a.v.f0):=hcc 0 _ rfl;have x1 : w2.cell? ⟨g,q * 5 + 1,none⟩ = some (.int .i64 a.v.f1):=hcc 1 _ rfl;have x2 : w2.cell? ⟨g,q * 5 + 2,none⟩ = some (.int .u64 a.v.f2):=hcc 2 _ rfl;have x3 : w2.cell? ⟨g,q * 5 + 3,none⟩ = some (.string a.v.f3):=hcc 3 _ rfl;have x4 : w2.cell? ⟨g,q * 5 + 4,none⟩ = some (.int .i64 a.e):=hcc 4 _ rfl;have hgl2 : g < w2.heap.size:=World.block_lt_of_cell? w2 _ x0;have hgn2 : ¬ g = w2.heap.size:=Nat.ne_of_lt hgl2;have hgn3 : ¬ w2.heap.size = g:=(Nat.ne_of_lt hgl2).symm;have HCC:=hidF hcc;have HCF:=hidF hcf;clear hcc hcf hM hcl;clear hb2)))
     go_roundw
     case rel=>exact ⟨i + 1,by go_num,by have:=HLT.out;omega,HB2,hidF (by rw [HSN2.out];exact HR2.out),HG2⟩
     case measure=>have:=HLT.out;simp [natOfV];omega
   ·subst t2
    have tl : t.length ≤ 3998:=by have:=slen;simp at this;omega
    obtain ⟨q,hq⟩ : ∃ q,t.length = q:=⟨_,rfl⟩
    obtain ⟨q1,hq1⟩ : ∃ q1,q + 1 = q1:=⟨_,rfl⟩
    obtain ⟨m,hm⟩ : ∃ m,q1 + 1 = m:=⟨_,rfl⟩
    have hq1l : (a :: t).length = q1:=by rw [← hq1,← hq];rfl
    have hL : (rowC (b :: a :: t)).length = m:=by rw [rowC_len,← hm,← hq1,← hq];rfl
    have HRb : Hid (Kd.R k71 71 W1 W0.heap.size (fun _=>True) (.slice A1 m c1) (rowC (b :: a :: t))):=hidF (by have:=HRa.out;rwa [hL] at this)
    obtain ⟨g,cap,hv,hg,hgl,_⟩:=Kd.R_form HRb.out (by rw [hL];omega)
    have hcap : m ≤ c1:=by obtain ⟨_,_,hh,hle,_⟩:=Kd.R_reads HRb.out;injection hh with _ h2 h3;rw [hL] at hle;omega
    have hw : wrap64 ((m : Int) - 1) = (q1 : Int):=by unfold wrap64;omega
    have hw2 : wrap64 ((m : Int) - 2) = (q : Int):=by unfold wrap64;omega
    have hwi : IntKind.i64.wrap ((m : Int) - 1) = (q1 : Int):=by rw [IntKind.wrap_i64];omega
    have hwi2 : IntKind.i64.wrap ((m : Int) - 2) = (q : Int):=by rw [IntKind.wrap_i64];omega
    have hqm : (q : Int) < (m : Int):=by omega
    have hqm1 : (q1 : Int) < (m : Int):=by omega
    have hqq : (q : Int) < (q1 : Int):=by omega
    have hmq : m - 1 = q1:=by omega
    have hmq2 : m - 2 = q:=by omega
    have hqn : q < m:=by omega
    have hqn1 : q1 < m:=by omega
    have hqq1 : q < q1:=by omega
    have hm0 : 0 < m:=by omega
    have hi0 : (0 : Int) ≤ (m : Int) - 1:=by omega
    have hi1 : (m : Int) - 1 < (m : Int):=by omega
    have hi2 : (0 : Int) ≤ (m : Int) - 2:=by omega
    have hi5 : (m : Int) - 2 < (m : Int):=by omega
    have hi6 : (m : Int) - 1 = (q1 : Int):=by omega
    have hi7 : (m : Int) - 2 = (q : Int):=by omega
    have hc1 : q1 ≤ c1:=by omega
    have hc2 : (q1 : Int) ≤ (c1 : Int):=by omega
    injection hv with hv1 hv2 hv3
    subst hv1;subst hv3
    rw [t0] at HTK
    have ga : GoodU a:=HG.out a (by simp)
    have gb : GoodU b:=HG.out b (by simp)
    have HGA:=hidF ga
    have HGB:=hidF gb
    obtain ⟨y,hy⟩ : ∃ y,twoC d a b = y:=⟨_,rfl⟩
    have HY:=hidF hy
    have HSN : Hid (runC r (e.take (i + 1)) [] = y :: t):=hidF (by rw [← hy];exact SNX.out.trans t3)
    have HG2 : Hid (∀ y ∈ runC r (e.take (i + 1)) [],GoodU y):=hidF (fun z hz=>by
     rw [HSN.out] at hz
     rcases List.mem_cons.1 hz with rfl | hz
     ·rw [← HY.out];exact HF.out.gtwo d a b HGA.out HGB.out
     ·exact HG.out z (List.mem_cons_of_mem _ (List.mem_cons_of_mem _ hz)))
    have HTA:=hidF (show (rowC (b :: a :: t)).getD q z71 = toC a by rw [← hq];exact rowC_sec b a t)
    have HTB:=hidF (show (rowC (b :: a :: t)).getD q1 z71 = toC b by rw [← hq1l];exact rowC_top b (a :: t))
    have HTC:=hidF (show (rowC (a :: t)).getD q z71 = toC a by rw [← hq];exact rowC_top a t)
    have HQL:=hidF hq
    obtain ⟨f,hf⟩ : ∃ f,leastE a.e b.e = f:=⟨_,rfl⟩
    have HFF:=hidF hf
    have HLE : Hid (∀ W,Calls Tryz.prog 41 #[.int .i64 a.e,.int .i64 b.e] W fun e w'=>e = .returned (.int .i64 f) ∧ Below W.heap.size W w'):=hidF fun W=>by rw [← hf];exact HF.out.least W a.e b.e
    clear t0 t1 t3 ga gb slen hv2 hq hm tl hy hf hcap hq1
    by_cases h0 : f = 0
    ·have e4 : (f == 0) = true:=beq_iff_eq.2 h0
     have HON : Hid (∀ W,Calls Tryz.prog 42 #[.int .i64 d.f0,.agg #[.int .i64 a.v.f0,.int .i64 a.v.f1,.int .u64 a.v.f2,.string a.v.f3],.agg #[.int .i64 b.v.f0,.int .i64 b.v.f1,.int .u64 b.v.f2,.string b.v.f3]] W fun e w'=>e = .returned (.tuple #[.agg #[.int .i64 y.v.f0,.int .i64 y.v.f1,.int .u64 y.v.f2,.string y.v.f3],.int .i64 y.e]) ∧ Below W.heap.size W w'):=hidF fun W=>by rw [← HY.out];exact HF.out.two W d a b HGA.out HGB.out (HFF.out.trans h0)
     clear h0
     go_wp2_with (first
      | (go_at_call 39;((with_reducible refine (HTK.out W1).mono ?_);rintro en w2 ⟨rfl,hb2⟩;have n0:=keepC6 hb2 m0;have n1:=keepC6 hb2 m1;have n2:=keepC6 hb2 m2;have n3:=keepC6 hb2 m3;have n4:=keepC6 hb2 m4;have n5:=keepC6 hb2 m5;have hDl : D < w2.heap.size:=World.block_lt_of_cell? w2 _ n0;have HB2:=hidF (HBa.out.trans (hb2.mono HBa.out.size));have HRl:=hidF (Kd.R_mono (Kd.R_bound (Kd.R_below HRb.out hb2)) (ok':=fun k=>k < w2.heap.size) (fun k hk=>hk.2.2.1));obtain ⟨x0,x1,x2,x3,x4,_⟩:=row_at HRl.out (Below.refl _ _) q hqn a HTA.out;obtain ⟨x5,x6,x7,x8,x9,_⟩:=row_at HRl.out (Below.refl _ _) q1 hqn1 b HTB.out;have hgl2 : g < w2.heap.size:=World.block_lt_of_cell? w2 _ x0;have hgn2 : ¬ g = w2.heap.size:=Nat.ne_of_lt hgl2;have hgn3 : ¬ w2.heap.size = g:=(Nat.ne_of_lt hgl2).symm;have hgn4 : ¬ g = w2.heap.size + 1:=Nat.ne_of_lt (Nat.lt_succ_of_lt hgl2);have hgn5 : ¬ w2.heap.size + 1 = g:=(Nat.ne_of_lt (Nat.lt_succ_of_lt hgl2)).symm;have HRt:=hidF (show Kd.R k71 71 w2 W0.heap.size (fun k=>k < w2.heap.size) (.slice (some ⟨g,0,none⟩) q1 c1) (rowC (a :: t)) by have h:=Kd.R_take (m:=q1) HRl.out (by rw [hL];exact Nat.le_of_lt hqn1);rw [show q1 = (a :: t).length from hq1l.symm,rowC_take] at h;rw [hq1l] at h;exact h);clear hb2))
      | (go_at_call 41;((with_reducible refine (HLE.out ((w2.alloc (.cells #[.int .i64 a.v.f0,.int .i64 a.v.f1,.int .u64 a.v.f2,.string a.v.f3,.int .i64 a.e] 71)).alloc (.cells #[.int .i64 b.v.f0,.int .i64 b.v.f1,.int .u64 b.v.f2,.string b.v.f3,.int .i64 b.e] 71))).mono ?_);rintro en w3 ⟨rfl,hb3⟩;have hsa : (w2.alloc (.cells #[.int .i64 a.v.f0,.int .i64 a.v.f1,.int .u64 a.v.f2,.string a.v.f3,.int .i64 a.e] 71)).heap.size = w2.heap.size + 1:=(by simp);have hsb : ((w2.alloc (.cells #[.int .i64 a.v.f0,.int .i64 a.v.f1,.int .u64 a.v.f2,.string a.v.f3,.int .i64 a.e] 71)).alloc (.cells #[.int .i64 b.v.f0,.int .i64 b.v.f1,.int .u64 b.v.f2,.string b.v.f3,.int .i64 b.e] 71)).heap.size = w2.heap.size + 1 + 1:=(by simp);have hbx : Below w2.heap.size w2 w3:=((below_box w2 _).trans ((below_box (w2.alloc (.cells #[.int .i64 a.v.f0,.int .i64 a.v.f1,.int .u64 a.v.f2,.string a.v.f3,.int .i64 a.e] 71)) _).mono (by rw [hsa];exact Nat.le_succ _))).trans (hb3.mono (by rw [hsb];exact Nat.le_trans (Nat.le_succ _) (Nat.le_succ _)));have HQ3:=hidF hbx;have hsz3 : w2.heap.size + 1 + 1 ≤ w3.heap.size:=(by rw [← hsb];exact hb3.size);have q0_ : w3.cell? ⟨w2.heap.size,0,none⟩ = some (.int .i64 a.v.f0):=keepC6 hb3 (keepC6 (below_box (w2.alloc (.cells #[.int .i64 a.v.f0,.int .i64 a.v.f1,.int .u64 a.v.f2,.string a.v.f3,.int .i64 a.e] 71)) _) ((blk_cell (heap_alloc_new w2 _) 0).trans rfl));have q1_ : w3.cell? ⟨w2.heap.size,1,none⟩ = some (.int .i64 a.v.f1):=keepC6 hb3 (keepC6 (below_box (w2.alloc (.cells #[.int .i64 a.v.f0,.int .i64 a.v.f1,.int .u64 a.v.f2,.string a.v.f3,.int .i64 a.e] 71)) _) ((blk_cell (heap_alloc_new w2 _) 1).trans rfl));have q2_ : w3.cell? ⟨w2.heap.size,2,none⟩ = some (.int .u64 a.v.f2):=keepC6 hb3 (keepC6 (below_box (w2.alloc (.cells #[.int .i64 a.v.f0,.int .i64 a.v.f1,.int .u64 a.v.f2,.string a.v.f3,.int .i64 a.e] 71)) _) ((blk_cell (heap_alloc_new w2 _) 2).trans rfl));have q3_ : w3.cell? ⟨w2.heap.size,3,none⟩ = some (.string a.v.f3):=keepC6 hb3 (keepC6 (below_box (w2.alloc (.cells #[.int .i64 a.v.f0,.int .i64 a.v.f1,.int .u64 a.v.f2,.string a.v.f3,.int .i64 a.e] 71)) _) ((blk_cell (heap_alloc_new w2 _) 3).trans rfl));have q4_ : w3.cell? ⟨w2.heap.size,4,none⟩ = some (.int .i64 a.e):=keepC6 hb3 (keepC6 (below_box (w2.alloc (.cells #[.int .i64 a.v.f0,.int .i64 a.v.f1,.int .u64 a.v.f2,.string a.v.f3,.int .i64 a.e] 71)) _) ((blk_cell (heap_alloc_new w2 _) 4).trans rfl));have r0_ : w3.cell? ⟨w2.heap.size + 1,0,none⟩ = some (.int .i64 b.v.f0):=keepC6 hb3 (show ((w2.alloc (.cells #[.int .i64 a.v.f0,.int .i64 a.v.f1,.int .u64 a.v.f2,.string a.v.f3,.int .i64 a.e] 71)).alloc (.cells #[.int .i64 b.v.f0,.int .i64 b.v.f1,.int .u64 b.v.f2,.string b.v.f3,.int .i64 b.e] 71)).cell? ⟨w2.heap.size + 1,0,none⟩ = some (.int .i64 b.v.f0) by have h:=(blk_cell (heap_alloc_new (w2.alloc (.cells #[.int .i64 a.v.f0,.int .i64 a.v.f1,.int .u64 a.v.f2,.string a.v.f3,.int .i64 a.e] 71)) (.cells #[.int .i64 b.v.f0,.int .i64 b.v.f1,.int .u64 b.v.f2,.string b.v.f3,.int .i64 b.e] 71)) 0);rw [hsa] at h;exact h.trans rfl);have r1_ : w3.cell? ⟨w2.heap.size + 1,1,none⟩ = some (.int .i64 b.v.f1):=keepC6 hb3 (show ((w2.alloc (.cells #[.int .i64 a.v.f0,.int .i64 a.v.f1,.int .u64 a.v.f2,.string a.v.f3,.int .i64 a.e] 71)).alloc (.cells #[.int .i64 b.v.f0,.int .i64 b.v.f1,.int .u64 b.v.f2,.string b.v.f3,.int .i64 b.e] 71)).cell? ⟨w2.heap.size + 1,1,none⟩ = some (.int .i64 b.v.f1) by have h:=(blk_cell (heap_alloc_new (w2.alloc (.cells #[.int .i64 a.v.f0,.int .i64 a.v.f1,.int .u64 a.v.f2,.string a.v.f3,.int .i64 a.e] 71)) (.cells #[.int .i64 b.v.f0,.int .i64 b.v.f1,.int .u64 b.v.f2,.string b.v.f3,.int .i64 b.e] 71)) 1);rw [hsa] at h;exact h.trans rfl);have r2_ : w3.cell? ⟨w2.heap.size + 1,2,none⟩ = some (.int .u64 b.v.f2):=keepC6 hb3 (show ((w2.alloc (.cells #[.int .i64 a.v.f0,.int .i64 a.v.f1,.int .u64 a.v.f2,.string a.v.f3,.int .i64 a.e] 71)).alloc (.cells #[.int .i64 b.v.f0,.int .i64 b.v.f1,.int .u64 b.v.f2,.string b.v.f3,.int .i64 b.e] 71)).cell? ⟨w2.heap.size + 1,2,none⟩ = some (.int .u64 b.v.f2) by have h:=(blk_cell (heap_alloc_new (w2.alloc (.cells #[.int .i64 a.v.f0,.int .i64 a.v.f1,.int .u64 a.v.f2,.string a.v.f3,.int .i64 a.e] 71)) (.cells #[.int .i64 b.v.f0,.int .i64 b.v.f1,.int .u64 b.v.f2,.string b.v.f3,.int .i64 b.e] 71)) 2);rw [hsa] at h;exact h.trans rfl);have r3_ : w3.cell? ⟨w2.heap.size + 1,3,none⟩ = some (.string b.v.f3):=keepC6 hb3 (show ((w2.alloc (.cells #[.int .i64 a.v.f0,.int .i64 a.v.f1,.int .u64 a.v.f2,.string a.v.f3,.int .i64 a.e] 71)).alloc (.cells #[.int .i64 b.v.f0,.int .i64 b.v.f1,.int .u64 b.v.f2,.string b.v.f3,.int .i64 b.e] 71)).cell? ⟨w2.heap.size + 1,3,none⟩ = some (.string b.v.f3) by have h:=(blk_cell (heap_alloc_new (w2.alloc (.cells #[.int .i64 a.v.f0,.int .i64 a.v.f1,.int .u64 a.v.f2,.string a.v.f3,.int .i64 a.e] 71)) (.cells #[.int .i64 b.v.f0,.int .i64 b.v.f1,.int .u64 b.v.f2,.string b.v.f3,.int .i64 b.e] 71)) 3);rw [hsa] at h;exact h.trans rfl);have r4_ : w3.cell? ⟨w2.heap.size + 1,4,none⟩ = some (.int .i64 b.e):=keepC6 hb3 (show ((w2.alloc (.cells #[.int .i64 a.v.f0,.int .i64 a.v.f1,.int .u64 a.v.f2,.string a.v.f3,.int .i64 a.e] 71)).alloc (.cells #[.int .i64 b.v.f0,.int .i64 b.v.f1,.int .u64 b.v.f2,.string b.v.f3,.int .i64 b.e] 71)).cell? ⟨w2.heap.size + 1,4,none⟩ = some (.int .i64 b.e) by have h:=(blk_cell (heap_alloc_new (w2.alloc (.cells #[.int .i64 a.v.f0,.int .i64 a.v.f1,.int .u64 a.v.f2,.string a.v.f3,.int .i64 a.e] 71)) (.cells #[.int .i64 b.v.f0,.int .i64 b.v.f1,.int .u64 b.v.f2,.string b.v.f3,.int .i64 b.e] 71)) 4);rw [hsa] at h;exact h.trans rfl);have p0:=keepC6 hbx n0;have p1:=keepC6 hbx n1;have p2:=keepC6 hbx n2;have p3:=keepC6 hbx n3;have p4:=keepC6 hbx n4;have p5:=keepC6 hbx n5;clear hb3 hbx hsa hsb x0 x1 x2 x3 x4 x5 x6 x7 x8 x9 n0 n1 n2 n3 n4 n5;have hA3 : w2.heap.size < w3.heap.size:=Nat.lt_of_lt_of_le (Nat.lt_succ_self _) (Nat.le_trans (Nat.le_succ _) hsz3);have hB3 : w2.heap.size + 1 < w3.heap.size:=Nat.lt_of_lt_of_le (Nat.lt_succ_self _) hsz3;have hD3 : D < w3.heap.size:=Nat.lt_trans hDl hA3;have hg3 : g < w3.heap.size:=Nat.lt_trans hgl2 hA3;have hgw : ¬ g = w3.heap.size:=Nat.ne_of_lt hg3;have hgw' : ¬ w3.heap.size = g:=(Nat.ne_of_lt hg3).symm;have hDw : ¬ D = w3.heap.size:=Nat.ne_of_lt hD3;have hDw' : ¬ w3.heap.size = D:=(Nat.ne_of_lt hD3).symm;have hAw : ¬ w2.heap.size = w3.heap.size:=Nat.ne_of_lt hA3;have hAw' : ¬ w3.heap.size = w2.heap.size:=(Nat.ne_of_lt hA3).symm;have hBw : ¬ w2.heap.size + 1 = w3.heap.size:=Nat.ne_of_lt hB3;have hBw' : ¬ w3.heap.size = w2.heap.size + 1:=(Nat.ne_of_lt hB3).symm))
      | (go_at_call 42;((with_reducible refine (HON.out (w3.alloc (.cells #[.int .i64 0,.int .i64 0,.int .u64 0,.string ⟨#[]⟩] 29))).mono ?_);rintro en w4 ⟨rfl,hb4⟩;have hsa : (w3.alloc (.cells #[.int .i64 0,.int .i64 0,.int .u64 0,.string ⟨#[]⟩] 29)).heap.size = w3.heap.size + 1:=(by simp);have hbx : Below w3.heap.size w3 w4:=(below_box w3 _).trans (hb4.mono (by rw [hsa];exact Nat.le_succ _));have HQ4:=hidF (HQ3.out.trans (hbx.mono HQ3.out.size));have v0_ : w4.cell? ⟨w3.heap.size,0,none⟩ = some (.int .i64 0):=keepC6 hb4 ((blk_cell (heap_alloc_new w3 _) 0).trans rfl);have v1_ : w4.cell? ⟨w3.heap.size,1,none⟩ = some (.int .i64 0):=keepC6 hb4 ((blk_cell (heap_alloc_new w3 _) 1).trans rfl);have v2_ : w4.cell? ⟨w3.heap.size,2,none⟩ = some (.int .u64 0):=keepC6 hb4 ((blk_cell (heap_alloc_new w3 _) 2).trans rfl);have v3_ : w4.cell? ⟨w3.heap.size,3,none⟩ = some (.string ⟨#[]⟩):=keepC6 hb4 ((blk_cell (heap_alloc_new w3 _) 3).trans rfl);have bf : ∀ j,w4.frozen? ⟨w3.heap.size,j,none⟩ = false:=fun j=>(hb4.frozen (p:=⟨w3.heap.size,j,none⟩) (by show w3.heap.size < _;rw [hsa];exact Nat.lt_succ_self _)).trans (blk_frozen (heap_alloc_new w3 _) j);have bf0:=bf 0;have bf1:=bf 1;have bf2:=bf 2;have bf3:=bf 3;have hs4 : w3.heap.size < w4.heap.size:=(by have h:=hb4.size;rw [hsa] at h;exact h);have hg4 : g < w4.heap.size:=Nat.lt_trans hg3 hs4;have hgx : ¬ g = w4.heap.size:=Nat.ne_of_lt hg4;have hgx' : ¬ w4.heap.size = g:=(Nat.ne_of_lt hg4).symm;have hvx : ¬ w3.heap.size = w4.heap.size:=Nat.ne_of_lt hs4;have hvx' : ¬ w4.heap.size = w3.heap.size:=(Nat.ne_of_lt hs4).symm;clear bf hsa hb4 hbx p0 p1 p2 p3 p4 p5 q0_ q1_ q2_ q3_ q4_ r0_ r1_ r2_ r3_ r4_;obtain ⟨z0,z1,z2,z3,z4,e0,e1,e2,e3,e5⟩:=row_at HRt.out HQ4.out q hqq1 a HTC.out)))
     go_roundw
     have HP:=hidF (row_put HB2.out HRt.out hg ((((HQ4.out.setCell (p:=⟨w3.heap.size,0,none⟩) HQ3.out.size (.int .i64 y.v.f0)).setCell (p:=⟨w3.heap.size,1,none⟩) HQ3.out.size (.int .i64 y.v.f1)).setCell (p:=⟨w3.heap.size,2,none⟩) HQ3.out.size (.int .u64 y.v.f2)).setCell (p:=⟨w3.heap.size,3,none⟩) HQ3.out.size (.string y.v.f3)) q hqq1 a HTC.out y)
     case rel=>exact ⟨i + 1,by go_num,by have:=HLT.out;omega,hidF (HP.out.1.alloc HP.out.1.size _),hidF (by rw [HSN.out,← rowC_set a y t,HQL.out];exact Kd.R_alloc HP.out.2 _),HG2⟩
     case measure=>have:=HLT.out;simp [natOfV];omega
    ·have e4 : (f == 0) = false:=beq_eq_false_iff_ne.2 h0
     have HYE : Hid (y = ⟨zV,f⟩):=hidF (by rw [← HY.out];unfold twoC;rw [HFF.out,if_pos h0])
     clear h0
     go_wp2_with (first
      | (go_at_call 39;((with_reducible refine (HTK.out W1).mono ?_);rintro en w2 ⟨rfl,hb2⟩;have n0:=keepC6 hb2 m0;have n1:=keepC6 hb2 m1;have n2:=keepC6 hb2 m2;have n3:=keepC6 hb2 m3;have n4:=keepC6 hb2 m4;have n5:=keepC6 hb2 m5;have hDl : D < w2.heap.size:=World.block_lt_of_cell? w2 _ n0;have HB2:=hidF (HBa.out.trans (hb2.mono HBa.out.size));have HRl:=hidF (Kd.R_mono (Kd.R_bound (Kd.R_below HRb.out hb2)) (ok':=fun k=>k < w2.heap.size) (fun k hk=>hk.2.2.1));obtain ⟨x0,x1,x2,x3,x4,_⟩:=row_at HRl.out (Below.refl _ _) q hqn a HTA.out;obtain ⟨x5,x6,x7,x8,x9,_⟩:=row_at HRl.out (Below.refl _ _) q1 hqn1 b HTB.out;have hgl2 : g < w2.heap.size:=World.block_lt_of_cell? w2 _ x0;have hgn2 : ¬ g = w2.heap.size:=Nat.ne_of_lt hgl2;have hgn3 : ¬ w2.heap.size = g:=(Nat.ne_of_lt hgl2).symm;have hgn4 : ¬ g = w2.heap.size + 1:=Nat.ne_of_lt (Nat.lt_succ_of_lt hgl2);have hgn5 : ¬ w2.heap.size + 1 = g:=(Nat.ne_of_lt (Nat.lt_succ_of_lt hgl2)).symm;have HRt:=hidF (show Kd.R k71 71 w2 W0.heap.size (fun k=>k < w2.heap.size) (.slice (some ⟨g,0,none⟩) q1 c1) (rowC (a :: t)) by have h:=Kd.R_take (m:=q1) HRl.out (by rw [hL];exact Nat.le_of_lt hqn1);rw [show q1 = (a :: t).length from hq1l.symm,rowC_take] at h;rw [hq1l] at h;exact h);clear hb2))
      | (go_at_call 41;((with_reducible refine (HLE.out ((w2.alloc (.cells #[.int .i64 a.v.f0,.int .i64 a.v.f1,.int .u64 a.v.f2,.string a.v.f3,.int .i64 a.e] 71)).alloc (.cells #[.int .i64 b.v.f0,.int .i64 b.v.f1,.int .u64 b.v.f2,.string b.v.f3,.int .i64 b.e] 71))).mono ?_);rintro en w3 ⟨rfl,hb3⟩;have hsa : (w2.alloc (.cells #[.int .i64 a.v.f0,.int .i64 a.v.f1,.int .u64 a.v.f2,.string a.v.f3,.int .i64 a.e] 71)).heap.size = w2.heap.size + 1:=(by simp);have hsb : ((w2.alloc (.cells #[.int .i64 a.v.f0,.int .i64 a.v.f1,.int .u64 a.v.f2,.string a.v.f3,.int .i64 a.e] 71)).alloc (.cells #[.int .i64 b.v.f0,.int .i64 b.v.f1,.int .u64 b.v.f2,.string b.v.f3,.int .i64 b.e] 71)).heap.size = w2.heap.size + 1 + 1:=(by simp);have hbx : Below w2.heap.size w2 w3:=((below_box w2 _).trans ((below_box (w2.alloc (.cells #[.int .i64 a.v.f0,.int .i64 a.v.f1,.int .u64 a.v.f2,.string a.v.f3,.int .i64 a.e] 71)) _).mono (by rw [hsa];exact Nat.le_succ _))).trans (hb3.mono (by rw [hsb];exact Nat.le_trans (Nat.le_succ _) (Nat.le_succ _)));have HQ3:=hidF hbx;have hsz3 : w2.heap.size + 1 + 1 ≤ w3.heap.size:=(by rw [← hsb];exact hb3.size);have q0_ : w3.cell? ⟨w2.heap.size,0,none⟩ = some (.int .i64 a.v.f0):=keepC6 hb3 (keepC6 (below_box (w2.alloc (.cells #[.int .i64 a.v.f0,.int .i64 a.v.f1,.int .u64 a.v.f2,.string a.v.f3,.int .i64 a.e] 71)) _) ((blk_cell (heap_alloc_new w2 _) 0).trans rfl));have q1_ : w3.cell? ⟨w2.heap.size,1,none⟩ = some (.int .i64 a.v.f1):=keepC6 hb3 (keepC6 (below_box (w2.alloc (.cells #[.int .i64 a.v.f0,.int .i64 a.v.f1,.int .u64 a.v.f2,.string a.v.f3,.int .i64 a.e] 71)) _) ((blk_cell (heap_alloc_new w2 _) 1).trans rfl));have q2_ : w3.cell? ⟨w2.heap.size,2,none⟩ = some (.int .u64 a.v.f2):=keepC6 hb3 (keepC6 (below_box (w2.alloc (.cells #[.int .i64 a.v.f0,.int .i64 a.v.f1,.int .u64 a.v.f2,.string a.v.f3,.int .i64 a.e] 71)) _) ((blk_cell (heap_alloc_new w2 _) 2).trans rfl));have q3_ : w3.cell? ⟨w2.heap.size,3,none⟩ = some (.string a.v.f3):=keepC6 hb3 (keepC6 (below_box (w2.alloc (.cells #[.int .i64 a.v.f0,.int .i64 a.v.f1,.int .u64 a.v.f2,.string a.v.f3,.int .i64 a.e] 71)) _) ((blk_cell (heap_alloc_new w2 _) 3).trans rfl));have q4_ : w3.cell? ⟨w2.heap.size,4,none⟩ = some (.int .i64 a.e):=keepC6 hb3 (keepC6 (below_box (w2.alloc (.cells #[.int .i64 a.v.f0,.int .i64 a.v.f1,.int .u64 a.v.f2,.string a.v.f3,.int .i64 a.e] 71)) _) ((blk_cell (heap_alloc_new w2 _) 4).trans rfl));have r0_ : w3.cell? ⟨w2.heap.size + 1,0,none⟩ = some (.int .i64 b.v.f0):=keepC6 hb3 (show ((w2.alloc (.cells #[.int .i64 a.v.f0,.int .i64 a.v.f1,.int .u64 a.v.f2,.string a.v.f3,.int .i64 a.e] 71)).alloc (.cells #[.int .i64 b.v.f0,.int .i64 b.v.f1,.int .u64 b.v.f2,.string b.v.f3,.int .i64 b.e] 71)).cell? ⟨w2.heap.size + 1,0,none⟩ = some (.int .i64 b.v.f0) by have h:=(blk_cell (heap_alloc_new (w2.alloc (.cells #[.int .i64 a.v.f0,.int .i64 a.v.f1,.int .u64 a.v.f2,.string a.v.f3,.int .i64 a.e] 71)) (.cells #[.int .i64 b.v.f0,.int .i64 b.v.f1,.int .u64 b.v.f2,.string b.v.f3,.int .i64 b.e] 71)) 0);rw [hsa] at h;exact h.trans rfl);have r1_ : w3.cell? ⟨w2.heap.size + 1,1,none⟩ = some (.int .i64 b.v.f1):=keepC6 hb3 (show ((w2.alloc (.cells #[.int .i64 a.v.f0,.int .i64 a.v.f1,.int .u64 a.v.f2,.string a.v.f3,.int .i64 a.e] 71)).alloc (.cells #[.int .i64 b.v.f0,.int .i64 b.v.f1,.int .u64 b.v.f2,.string b.v.f3,.int .i64 b.e] 71)).cell? ⟨w2.heap.size + 1,1,none⟩ = some (.int .i64 b.v.f1) by have h:=(blk_cell (heap_alloc_new (w2.alloc (.cells #[.int .i64 a.v.f0,.int .i64 a.v.f1,.int .u64 a.v.f2,.string a.v.f3,.int .i64 a.e] 71)) (.cells #[.int .i64 b.v.f0,.int .i64 b.v.f1,.int .u64 b.v.f2,.string b.v.f3,.int .i64 b.e] 71)) 1);rw [hsa] at h;exact h.trans rfl);have r2_ : w3.cell? ⟨w2.heap.size + 1,2,none⟩ = some (.int .u64 b.v.f2):=keepC6 hb3 (show ((w2.alloc (.cells #[.int .i64 a.v.f0,.int .i64 a.v.f1,.int .u64 a.v.f2,.string a.v.f3,.int .i64 a.e] 71)).alloc (.cells #[.int .i64 b.v.f0,.int .i64 b.v.f1,.int .u64 b.v.f2,.string b.v.f3,.int .i64 b.e] 71)).cell? ⟨w2.heap.size + 1,2,none⟩ = some (.int .u64 b.v.f2) by have h:=(blk_cell (heap_alloc_new (w2.alloc (.cells #[.int .i64 a.v.f0,.int .i64 a.v.f1,.int .u64 a.v.f2,.string a.v.f3,.int .i64 a.e] 71)) (.cells #[.int .i64 b.v.f0,.int .i64 b.v.f1,.int .u64 b.v.f2,.string b.v.f3,.int .i64 b.e] 71)) 2);rw [hsa] at h;exact h.trans rfl);have r3_ : w3.cell? ⟨w2.heap.size + 1,3,none⟩ = some (.string b.v.f3):=keepC6 hb3 (show ((w2.alloc (.cells #[.int .i64 a.v.f0,.int .i64 a.v.f1,.int .u64 a.v.f2,.string a.v.f3,.int .i64 a.e] 71)).alloc (.cells #[.int .i64 b.v.f0,.int .i64 b.v.f1,.int .u64 b.v.f2,.string b.v.f3,.int .i64 b.e] 71)).cell? ⟨w2.heap.size + 1,3,none⟩ = some (.string b.v.f3) by have h:=(blk_cell (heap_alloc_new (w2.alloc (.cells #[.int .i64 a.v.f0,.int .i64 a.v.f1,.int .u64 a.v.f2,.string a.v.f3,.int .i64 a.e] 71)) (.cells #[.int .i64 b.v.f0,.int .i64 b.v.f1,.int .u64 b.v.f2,.string b.v.f3,.int .i64 b.e] 71)) 3);rw [hsa] at h;exact h.trans rfl);have r4_ : w3.cell? ⟨w2.heap.size + 1,4,none⟩ = some (.int .i64 b.e):=keepC6 hb3 (show ((w2.alloc (.cells #[.int .i64 a.v.f0,.int .i64 a.v.f1,.int .u64 a.v.f2,.string a.v.f3,.int .i64 a.e] 71)).alloc (.cells #[.int .i64 b.v.f0,.int .i64 b.v.f1,.int .u64 b.v.f2,.string b.v.f3,.int .i64 b.e] 71)).cell? ⟨w2.heap.size + 1,4,none⟩ = some (.int .i64 b.e) by have h:=(blk_cell (heap_alloc_new (w2.alloc (.cells #[.int .i64 a.v.f0,.int .i64 a.v.f1,.int .u64 a.v.f2,.string a.v.f3,.int .i64 a.e] 71)) (.cells #[.int .i64 b.v.f0,.int .i64 b.v.f1,.int .u64 b.v.f2,.string b.v.f3,.int .i64 b.e] 71)) 4);rw [hsa] at h;exact h.trans rfl);have p0:=keepC6 hbx n0;have p1:=keepC6 hbx n1;have p2:=keepC6 hbx n2;have p3:=keepC6 hbx n3;have p4:=keepC6 hbx n4;have p5:=keepC6 hbx n5;clear hb3 hbx hsa hsb x0 x1 x2 x3 x4 x5 x6 x7 x8 x9 n0 n1 n2 n3 n4 n5;have hA3 : w2.heap.size < w3.heap.size:=Nat.lt_of_lt_of_le (Nat.lt_succ_self _) (Nat.le_trans (Nat.le_succ _) hsz3);have hB3 : w2.heap.size + 1 < w3.heap.size:=Nat.lt_of_lt_of_le (Nat.lt_succ_self _) hsz3;have hD3 : D < w3.heap.size:=Nat.lt_trans hDl hA3;have hg3 : g < w3.heap.size:=Nat.lt_trans hgl2 hA3;have hgw : ¬ g = w3.heap.size:=Nat.ne_of_lt hg3;have hgw' : ¬ w3.heap.size = g:=(Nat.ne_of_lt hg3).symm;have hDw : ¬ D = w3.heap.size:=Nat.ne_of_lt hD3;have hDw' : ¬ w3.heap.size = D:=(Nat.ne_of_lt hD3).symm;have hAw : ¬ w2.heap.size = w3.heap.size:=Nat.ne_of_lt hA3;have hAw' : ¬ w3.heap.size = w2.heap.size:=(Nat.ne_of_lt hA3).symm;have hBw : ¬ w2.heap.size + 1 = w3.heap.size:=Nat.ne_of_lt hB3;have hBw' : ¬ w3.heap.size = w2.heap.size + 1:=(Nat.ne_of_lt hB3).symm);obtain ⟨z0,z1,z2,z3,z4,e0,e1,e2,e3,e5⟩:=row_at HRt.out HQ3.out q hqq1 a HTC.out))
     go_roundw
     have HP:=hidF (row_put HB2.out HRt.out hg HQ3.out q hqq1 a HTC.out ⟨zV,f⟩)
     case rel=>exact ⟨i + 1,by go_num,by have:=HLT.out;omega,hidF (HP.out.1.alloc HP.out.1.size _),hidF (by rw [HSN.out,← rowC_set a y t,HQL.out,HYE.out];exact Kd.R_alloc HP.out.2 _),HG2⟩
     case measure=>have:=HLT.out;simp [natOfV];omega
  ·have hie : i = e.length:=by omega
   have hdd : decide (i < e.length) = false:=decide_eq_false hlt
   have h:=HR.out
   rw [hie,List.take_of_length_le (Nat.le_refl _),HX.out] at h
   have HRx:=hidF h
   clear h
   obtain ⟨A1,c1,rfl⟩:=Kd.R_slice HRx.out
   obtain ⟨g,cap,hv,hg,hgl,_⟩:=Kd.R_form HRx.out (by rw [rowC_len];exact Nat.lt_succ_self _)
   injection hv with hv1 hv2 hv3
   subst hv1;subst hv3
   obtain ⟨cc,hcl,hM,hcc,hcf⟩:=Kd.R_elem HRx.out z71 (0 : Int) (by decide) (by rw [rowC_len];exact Int.zero_lt_one)
   simp only [Int.toNat_zero] at hM hcc hcf
   rw [show (rowC [x]).getD 0 z71 = toC x from rfl] at hM
   obtain rfl:=k71_openM hM
   have x0 : wr.cell? ⟨g,0,none⟩ = some (.int .i64 x.v.f0):=hcc 0 _ rfl
   have x1 : wr.cell? ⟨g,1,none⟩ = some (.int .i64 x.v.f1):=hcc 1 _ rfl
   have x2 : wr.cell? ⟨g,2,none⟩ = some (.int .u64 x.v.f2):=hcc 2 _ rfl
   have x3 : wr.cell? ⟨g,3,none⟩ = some (.string x.v.f3):=hcc 3 _ rfl
   have x4 : wr.cell? ⟨g,4,none⟩ = some (.int .i64 x.e):=hcc 4 _ rfl
   have hzz : ∀ j,wr.cell? ⟨z,j,none⟩ = W0.cell? ⟨z,j,none⟩:=fun j=>HB.out.cell (p:=⟨z,j,none⟩) (by show z < _;omega)
   have hzf : ∀ j,wr.frozen? ⟨z,j,none⟩ = false:=fun j=>(HB.out.frozen (p:=⟨z,j,none⟩) (by show z < _;omega)).trans (by rw [← hW0,← hz];exact blk_frozen (heap_alloc_new w _) j)
   have c0 : wr.cell? ⟨z,0,none⟩ = some (.int .i64 0):=(hzz 0).trans (by rw [← hW0,← hz];exact (blk_cell (heap_alloc_new w _) 0).trans rfl)
   have c1' : wr.cell? ⟨z,1,none⟩ = some (.int .i64 0):=(hzz 1).trans (by rw [← hW0,← hz];exact (blk_cell (heap_alloc_new w _) 1).trans rfl)
   have c2 : wr.cell? ⟨z,2,none⟩ = some (.int .u64 0):=(hzz 2).trans (by rw [← hW0,← hz];exact (blk_cell (heap_alloc_new w _) 2).trans rfl)
   have c3 : wr.cell? ⟨z,3,none⟩ = some (.string ⟨#[]⟩):=(hzz 3).trans (by rw [← hW0,← hz];exact (blk_cell (heap_alloc_new w _) 3).trans rfl)
   have f0:=hzf 0
   have f1:=hzf 1
   have f2:=hzf 2
   have f3:=hzf 3
   have hzg : ¬ z = g:=by omega
   have hzg' : ¬ g = z:=by omega
   have hl1 : (rowC [x]).length = 1:=rowC_len _
   rw [hl1]
   have HBw:=hidF (HB0.out.trans (HB.out.mono HB0.out.size))
   have HBz:=hidF (show Below z w wr by rw [← hz];exact HBw.out)
   clear hzz hzf hcl hcc hcf hM HR HG HB hie hlt hil hl1 hv2 hgl hg
   by_cases he : x.e = 0
   ·have e4 : (x.e != 0) = false:=bne_eq_false_iff_eq.2 he
    have HE:=hidF he
    clear he
    go_wp2
    exact bodyPost_ret (v:=.tuple #[.agg #[.int .i64 x.v.f0,.int .i64 x.v.f1,.int .u64 x.v.f2,.string x.v.f3],.int .i64 0]) (by simp [results,Tryz.results12,go_sem, *]) rfl ⟨rfl,((((HBz.out.setCell (p:=⟨z,0,none⟩) (Nat.le_refl _) _).setCell (p:=⟨z,1,none⟩) (Nat.le_refl _) _).setCell (p:=⟨z,2,none⟩) (Nat.le_refl _) _).setCell (p:=⟨z,3,none⟩) (Nat.le_refl _) _)⟩
   ·have e4 : (x.e != 0) = true:=bne_iff_ne.2 he
    have HE:=hidF he
    clear he
    go_wp2
    go_region
    all_goals
     go_wp2
     exact bodyPost_ret (v:=.tuple #[.agg #[.int .i64 0,.int .i64 0,.int .u64 0,.string ⟨#[]⟩],.int .i64 x.e]) (by simp [results,Tryz.results12,go_sem, *]) rfl ⟨rfl,by first | exact ((((HBz.out.setCell (p:=⟨z,0,none⟩) (Nat.le_refl _) _).setCell (p:=⟨z,1,none⟩) (Nat.le_refl _) _).setCell (p:=⟨z,2,none⟩) (Nat.le_refl _) _).setCell (p:=⟨z,3,none⟩) (Nat.le_refl _) _) | exact ((((HBz.out.setCell (p:=⟨z,0,none⟩) (Nat.le_refl _) _).setCell (p:=⟨z,1,none⟩) (Nat.le_refl _) _).setCell (p:=⟨z,2,none⟩) (Nat.le_refl _) _).setCell (p:=⟨z,3,none⟩) (Nat.le_refl _) _).drew | exact ((((HBz.out.drew.setCell (p:=⟨z,0,none⟩) (Nat.le_refl _) _).setCell (p:=⟨z,1,none⟩) (Nat.le_refl _) _).setCell (p:=⟨z,2,none⟩) (Nat.le_refl _) _).setCell (p:=⟨z,3,none⟩) (Nat.le_refl _) _)⟩
end Go.Proofs.YtakcjiinchghaaaGreatDoor
end
section
namespace Go.Proofs.YtakcjiinchghaaaGreatDoor
set_option linter.unusedVariables false
set_option linter.unusedSimpArgs false
open Go.RowKit Go.Proofs.YtakcjiinchghaaaGreatDoorW.PrintWords
open PRS
def numsL (l : List UInt8) : List Int:=l.map fun b=>(b.toNat : Int)
theorem numsL_len (l : List UInt8) : (numsL l).length = l.length:=by simp [numsL]
theorem numsL_app (l m : List UInt8) : numsL (l ++ m) = numsL l ++ numsL m:=by simp [numsL]
theorem strOf_numsL (l : List UInt8) : strOfNums (numsL l) = ⟨l.toArray⟩:=by
 unfold strOfNums numsL
 rw [List.map_map]
 have : l.map ((fun n : Int=>UInt8.ofNat n.toNat) ∘ fun b : UInt8=>(b.toNat : Int)) = l:=by induction l <;> simp_all
 rw [this]
theorem ba_nil (s : ByteArray) : s ++ ⟨#[]⟩ = s:=by apply ByteArray.ext;simp
theorem w64 {n : Int} (h0 : -9223372036854775808 ≤ n) (h1 : n ≤ 9223372036854775807) : wrap64 n = n:=by unfold wrap64;omega
theorem wu64 {n : Int} (h0 : 0 ≤ n) (h1 : n < 18446744073709551616) : IntKind.u64.wrap n = n:=by rw [IntKind.wrap_u64];omega
/-- the digits, the last first -/
def rdig (u : Nat) : List UInt8:=(Lib.decDigits u).reverse
theorem rdig_lt {u : Nat} (h : u < 10) : rdig u = [UInt8.ofNat (48 + u)]:=by unfold rdig;rw [Lib.decDigits,dif_pos h];rfl
theorem rdig_ge {u : Nat} (h : ¬ u < 10) : rdig u = UInt8.ofNat (48 + u % 10) :: rdig (u / 10):=by unfold rdig;rw [Lib.decDigits,dif_neg h];simp
theorem dig1 (u : Nat) : (IntKind.u64.wrap (48 + Int.tmod (u : Int) 10)) % 256 = ((UInt8.ofNat (48 + u % 10)).toNat : Int):=by
 have h1 : Int.tmod (u : Int) 10 = ((u % 10 : Nat) : Int):=rfl
 rw [h1,wu64 (by omega) (by omega)]
 have h2 : (UInt8.ofNat (48 + u % 10)).toNat = 48 + u % 10:=by simp;omega
 rw [h2];omega
theorem dig2 (u : Nat) (h : u < 10) : (IntKind.u64.wrap (48 + (u : Int))) % 256 = ((UInt8.ofNat (48 + u)).toNat : Int):=by
 rw [wu64 (by omega) (by omega)]
 have h2 : (UInt8.ofNat (48 + u)).toNat = 48 + u:=by simp;omega
 rw [h2];omega
theorem dig3 (u : Nat) (h : u < 18446744073709551616) : IntKind.u64.wrap (Int.tdiv (u : Int) 10) = ((u / 10 : Nat) : Int):=by
 have h1 : Int.tdiv (u : Int) 10 = ((u / 10 : Nat) : Int):=rfl
 rw [h1,wu64 (by omega) (by omega)]
theorem l1_ev (L : List UInt8) (hL : L.length ≤ 100) : ∀ (i : Nat) (s : ByteArray),i ≤ L.length → s.size + i ≤ 1000 → Ev (fun k=>freshetref01_digits.l1 k (numsL L) s ((i : Int) - 1)) (s ++ ⟨((L.take i).reverse).toArray⟩)
 | 0,s,_,_=>by
  refine Ev.step (f:=fun _=>some s) (fun k=>?_) (by simpa [ba_nil] using Ev.now s)
  simp only [freshetref01_digits.l1];rw [if_neg (by omega)]
 | i + 1,s,hi,hs=>by
  have ih:=l1_ev L hL i (s ++ ⟨#[L[i]]⟩) (by omega) (by simp [ByteArray.size_append];show s.size + 1 + i ≤ 1000;omega)
  have e : s ++ ⟨((L.take (i + 1)).reverse).toArray⟩ = (s ++ ⟨#[L[i]]⟩) ++ ⟨((L.take i).reverse).toArray⟩:=by
   rw [List.take_succ_eq_append_getElem (by omega),List.reverse_append];apply ByteArray.ext;simp [-List.take_append_getElem]
  rw [e]
  refine Ev.step (fun k=>?_) ih
  simp only [freshetref01_digits.l1]
  have h1 : ((i + 1 : Nat) : Int) - 1 = (i : Int):=by omega
  rw [h1,if_pos (by omega),if_pos (by omega),w64 (by omega) (by omega),if_pos (by omega),if_pos (by rw [numsL_len];omega)]
  have h2 : ((numsL L).take ((i : Int) + 1).toNat).drop ((i : Int)).toNat = numsL [L[i]]:=by
   rw [show ((i : Int) + 1).toNat = i + 1 by omega,show ((i : Int)).toNat = i by omega]
   simp only [numsL,← List.map_take,← List.map_drop]
   rw [List.take_succ_eq_append_getElem (by omega),List.drop_append_of_le_length (by simp;omega),List.drop_of_length_le (by simp;omega)];rfl
  rw [h2]
  simp only [Option.bind_some,strOf_numsL]
  rw [if_pos (by show s.size + 1 ≤ _;omega),w64 (by omega) (by omega)]
theorem j2_ev (L : List UInt8) (hL : L.length ≤ 100) : Ev (fun k=>freshetref01_digits.j2 k (numsL L)) ⟨L.reverse.toArray⟩:=by
 have h:=l1_ev L hL L.length ⟨#[]⟩ (Nat.le_refl _) (by show 0 + _ ≤ _;omega)
 rw [List.take_length] at h
 have e : (⟨#[]⟩ ++ ⟨L.reverse.toArray⟩ : ByteArray) = ⟨L.reverse.toArray⟩:=by apply ByteArray.ext;simp
 rw [e] at h
 refine Ev.step (fun k=>?_) h
 simp only [freshetref01_digits.j2]
 rw [numsL_len,w64 (by omega) (by omega)]
theorem l0_end (n : Int) (u : Nat) (l : List UInt8) (hu : u < 10) (hl : l.length ≤ 30) :
  Ev (fun k=>freshetref01_digits.l0 k n u (numsL l)) ⟨(l ++ rdig u ++ (if n < 0 then [45] else [])).reverse.toArray⟩:=by
 rw [rdig_lt hu]
 have e1 : numsL l ++ [(IntKind.u64.wrap (48 + (u : Int))) % 256] = numsL (l ++ [UInt8.ofNat (48 + u)]):=by rw [dig2 u hu,numsL_app];rfl
 by_cases hn : n < 0
 ·rw [if_pos hn]
  refine Ev.step (fun k=>?_) (j2_ev (l ++ [UInt8.ofNat (48 + u)] ++ [45]) (by simp;omega))
  simp only [freshetref01_digits.l0]
  rw [if_neg (by omega),if_pos (by rw [numsL_len];omega),e1]
  simp only [Option.bind_some]
  rw [if_pos hn,if_pos (by rw [numsL_len];simp;omega),numsL_app (l ++ [UInt8.ofNat (48 + u)])];rfl
 ·rw [if_neg hn,List.append_nil]
  refine Ev.step (fun k=>?_) (j2_ev (l ++ [UInt8.ofNat (48 + u)]) (by simp;omega))
  simp only [freshetref01_digits.l0]
  rw [if_neg (by omega),if_pos (by rw [numsL_len];omega),e1]
  simp only [Option.bind_some]
  rw [if_neg hn]
theorem l0_ev (n : Int) : ∀ (d u : Nat) (l : List UInt8),u < 10 ^ (d + 1) → u < 18446744073709551616 → l.length + d ≤ 30 →
  Ev (fun k=>freshetref01_digits.l0 k n u (numsL l)) ⟨(l ++ rdig u ++ (if n < 0 then [45] else [])).reverse.toArray⟩
 | 0,u,l,h,_,hl=>l0_end n u l (by simpa using h) (by omega)
 | d + 1,u,l,h,h64,hl=>by
  by_cases hu : u < 10
  ·exact l0_end n u l hu (by omega)
  ·have ih:=l0_ev n d (u / 10) (l ++ [UInt8.ofNat (48 + u % 10)]) (by rw [Nat.pow_succ] at h;omega) (by omega) (by simp;omega)
   rw [rdig_ge hu]
   rw [show l ++ (UInt8.ofNat (48 + u % 10) :: rdig (u / 10)) = l ++ [UInt8.ofNat (48 + u % 10)] ++ rdig (u / 10) by simp]
   refine Ev.step (fun k=>?_) ih
   simp only [freshetref01_digits.l0]
   rw [if_pos (by omega),if_pos (by rw [numsL_len];omega),dig3 u h64,dig1,numsL_app];rfl
theorem digits_ev (n : Int) (h : I64 n) : Ev (fun k=>freshetref01_digits.f k n) ⟨(Lib.itoa n).toArray⟩:=by
 obtain ⟨h0,h1⟩:=h
 have key : ∀ u : Nat,u < 10000000000000000000 → Ev (fun k=>freshetref01_digits.j0 k n u) ⟨(rdig u ++ (if n < 0 then [45] else [])).reverse.toArray⟩:=fun u hu=>by
  have:=l0_ev n 19 u [] (by omega) (by omega) (by simp)
  rw [List.nil_append] at this
  refine Ev.step (fun k=>?_) this
  simp only [freshetref01_digits.j0];rfl
 unfold Lib.itoa
 by_cases hn : n < 0
 ·have k:=key n.natAbs (by omega)
  rw [if_pos hn] at k ⊢
  have e : (rdig n.natAbs ++ [45]).reverse = 45 :: Lib.decDigits n.natAbs:=by simp [rdig]
  rw [e] at k
  refine Ev.congr (fun m=>?_) k
  simp only [freshetref01_digits.f]
  rw [if_pos hn]
  congr 1
  rw [IntKind.wrap_u64,IntKind.wrap_u64];omega
 ·have k:=key n.toNat (by omega)
  rw [if_neg hn,List.append_nil] at k
  rw [if_neg hn]
  have e : (rdig n.toNat).reverse = Lib.decDigits n.toNat:=by simp [rdig]
  rw [e] at k
  refine Ev.congr (fun m=>?_) k
  simp only [freshetref01_digits.f]
  rw [if_neg hn]
  congr 1
  rw [IntKind.wrap_u64];omega
end Go.Proofs.YtakcjiinchghaaaGreatDoor
end
section
namespace Go.Proofs.YtakcjiinchghaaaGreatDoor
set_option linter.unusedVariables false
set_option linter.unusedSimpArgs false
open Go.RowKit
theorem rDigits_c (n : Int) (w : World) (h : I64 n) : Calls Tryz.prog 92 #[.int .i64 n] w fun e w'=>e = .returned (.string ⟨(Lib.itoa n).toArray⟩) ∧ Below w.heap.size w w':=by
 obtain ⟨m,h⟩:=(digits_ev n h).rounds
 exact PRS.freshetref01_digits.calls m n _ w h
set_option maxRecDepth 100000 in
set_option maxHeartbeats 400000 in
theorem rOfInt_z (n : Int) (w : World) : Calls Tryz.prog 69 #[.int .i64 n] w fun e w'=>e = .returned (.agg #[.int .i64 2,.int .i64 n,.int .u64 0,.string ⟨#[]⟩]) ∧ Below w.heap.size w w':=by
 go_enter Tryz.func69,Tryz.ntmps69
 go_wp2_with fail
 exact bodyPost_ret (v:=.agg #[.int .i64 2,.int .i64 n,.int .u64 0,.string ⟨#[]⟩]) (by simp [results,Tryz.results69,go_sem]) rfl ⟨rfl,below_box _ _⟩
def OutT (r : Except Int V) (w : World) (e : Ending) (w' : World) : Prop :=
 e = .returned (.tuple #[.agg #[.int .i64 (resV r).1.k,.int .i64 (resV r).1.n,.int .u64 (resV r).1.f,.string (resV r).1.t],.int .i64 (resV r).2]) ∧ Below w.heap.size w w'
set_option maxRecDepth 100000 in
set_option maxHeartbeats 2000000 in
theorem rcast23 (n f : Int) (t : ByteArray) (w : World) : Calls Tryz.prog 67 #[.agg #[.int .i64 2,.int .i64 n,.int .u64 f,.string t],.int .i64 3] w (OutT (.ok ⟨3,0,plainI (floatOfInt .f64 n),⟨#[]⟩⟩) w):=by
 have h1:=run_tobits
 go_enter Tryz.func67,Tryz.ntmps67
 go_wp2_with (go_at_call 68;refine (rOfFloat_n _ _).mono ?_;rintro e w' ⟨rfl,hb⟩;(try (replace hb:=below_undrew hb));(try (replace hb:=below_undrewN hb));obtain ⟨hc,hf⟩:=bcell hb;(try (have hz0 : w.heap.size < w'.heap.size:=(by have:=hb.size;(try simp at this);omega)));(try (have hz1 : w.heap.size + 1 < w'.heap.size:=(by have:=hb.size;(try simp at this);omega)));(try (have hz2 : w.heap.size + 2 < w'.heap.size:=(by have:=hb.size;(try simp at this);omega)));(try (have hz3 : w.heap.size + 3 < w'.heap.size:=(by have:=hb.size;(try simp at this);omega))))
 exact bodyPost_ret (v:=.tuple #[.agg #[.int .i64 3,.int .i64 0,.int .u64 (plainI (floatOfInt .f64 n)),.string ⟨#[]⟩],.int .i64 0]) (by simp [results,Tryz.results67,go_sem, *]) rfl ⟨rfl,(by repeat (first | (with_reducible exact Below.refl _ _) | (with_reducible refine below_al ?_ _) | (with_reducible refine below_drewN ?_ _) | (with_reducible refine Below.drew ?_) | (with_reducible refine below_via (by assumption) ?_) | (with_reducible refine below_sc ?_ ?_ _;· (first | (simp;done) | (simp;omega) | omega))))⟩
set_option maxRecDepth 100000 in
set_option maxHeartbeats 2000000 in
theorem rcast24 (n f : Int) (t : ByteArray) (w : World) (hn : I64 n) : Calls Tryz.prog 67 #[.agg #[.int .i64 2,.int .i64 n,.int .u64 f,.string t],.int .i64 4] w (OutT (.ok ⟨4,0,0,⟨(Lib.itoa n).toArray⟩⟩) w):=by
 have D:=Lib.hid (fun w=>rDigits_c n w hn);clear hn
 go_enter Tryz.func67,Tryz.ntmps67
 go_wp2_with (go_at_call 92;refine (D.out _).mono ?_;rintro e w' ⟨rfl,hb⟩;(try (replace hb:=below_undrew hb));(try (replace hb:=below_undrewN hb));obtain ⟨hc,hf⟩:=bcell hb;(try (have hz0 : w.heap.size < w'.heap.size:=(by have:=hb.size;(try simp at this);omega)));(try (have hz1 : w.heap.size + 1 < w'.heap.size:=(by have:=hb.size;(try simp at this);omega)));(try (have hz2 : w.heap.size + 2 < w'.heap.size:=(by have:=hb.size;(try simp at this);omega)));(try (have hz3 : w.heap.size + 3 < w'.heap.size:=(by have:=hb.size;(try simp at this);omega))))
 exact bodyPost_ret (v:=.tuple #[.agg #[.int .i64 4,.int .i64 0,.int .u64 0,.string ⟨(Lib.itoa n).toArray⟩],.int .i64 0]) (by simp [results,Tryz.results67,go_sem, *]) rfl ⟨rfl,(by repeat (first | (with_reducible exact Below.refl _ _) | (with_reducible refine below_al ?_ _) | (with_reducible refine below_drewN ?_ _) | (with_reducible refine Below.drew ?_) | (with_reducible refine below_via (by assumption) ?_) | (with_reducible refine below_sc ?_ ?_ _;· (first | (simp;done) | (simp;omega) | omega))))⟩
set_option maxRecDepth 100000 in
set_option maxHeartbeats 2000000 in
theorem rcast14 (n f : Int) (t : ByteArray) (w : World) : Calls Tryz.prog 67 #[.agg #[.int .i64 1,.int .i64 n,.int .u64 f,.string t],.int .i64 4] w (OutT (.ok ⟨4,0,0,⟨(Lib.formatBool (n == 1)).toArray⟩⟩) w):=by
 cases h : (n == 1)
 ·go_enter Tryz.func67,Tryz.ntmps67
  go_wp2_with fail
  exact bodyPost_ret (v:=.tuple #[.agg #[.int .i64 4,.int .i64 0,.int .u64 0,.string ⟨#[102,97,108,115,101]⟩],.int .i64 0]) (by simp [results,Tryz.results67,go_sem, *]) rfl ⟨rfl,(by repeat (first | (with_reducible exact Below.refl _ _) | (with_reducible refine below_al ?_ _) | (with_reducible refine below_drewN ?_ _) | (with_reducible refine Below.drew ?_) | (with_reducible refine below_via (by assumption) ?_) | (with_reducible refine below_sc ?_ ?_ _;· (first | (simp;done) | (simp;omega) | omega))))⟩
 ·go_enter Tryz.func67,Tryz.ntmps67
  go_wp2_with fail
  exact bodyPost_ret (v:=.tuple #[.agg #[.int .i64 4,.int .i64 0,.int .u64 0,.string ⟨#[116,114,117,101]⟩],.int .i64 0]) (by simp [results,Tryz.results67,go_sem, *]) rfl ⟨rfl,(by repeat (first | (with_reducible exact Below.refl _ _) | (with_reducible refine below_al ?_ _) | (with_reducible refine below_drewN ?_ _) | (with_reducible refine Below.drew ?_) | (with_reducible refine below_via (by assumption) ?_) | (with_reducible refine below_sc ?_ ?_ _;· (first | (simp;done) | (simp;omega) | omega))))⟩
def errT : Value:=.tuple #[.agg #[.int .i64 0,.int .i64 0,.int .u64 0,.string ⟨#[]⟩],.int .i64 1]
set_option maxRecDepth 100000 in
set_option maxHeartbeats 2000000 in
theorem rcast_no1 (n f : Int) (t : ByteArray) (kind : Int) (w : World) (h4 : (kind == 4) = false) :
  Calls Tryz.prog 67 #[.agg #[.int .i64 1,.int .i64 n,.int .u64 f,.string t],.int .i64 kind] w (OutT (.error 1) w):=by
 go_enter Tryz.func67,Tryz.ntmps67
 go_wp2_with fail
 exact bodyPost_ret (v:=errT) (by simp [errT,results,Tryz.results67,go_sem, *]) rfl ⟨rfl,(by repeat (first | (with_reducible exact Below.refl _ _) | (with_reducible refine below_al ?_ _) | (with_reducible refine below_drewN ?_ _) | (with_reducible refine Below.drew ?_) | (with_reducible refine below_via (by assumption) ?_) | (with_reducible refine below_sc ?_ ?_ _;· (first | (simp;done) | (simp;omega) | omega))))⟩
set_option maxRecDepth 100000 in
set_option maxHeartbeats 2000000 in
theorem rcast_no2 (n f : Int) (t : ByteArray) (kind : Int) (w : World) (h3 : (kind == 3) = false) (h4 : (kind == 4) = false) :
  Calls Tryz.prog 67 #[.agg #[.int .i64 2,.int .i64 n,.int .u64 f,.string t],.int .i64 kind] w (OutT (.error 1) w):=by
 go_enter Tryz.func67,Tryz.ntmps67
 go_wp2_with fail
 exact bodyPost_ret (v:=errT) (by simp [errT,results,Tryz.results67,go_sem, *]) rfl ⟨rfl,(by repeat (first | (with_reducible exact Below.refl _ _) | (with_reducible refine below_al ?_ _) | (with_reducible refine below_drewN ?_ _) | (with_reducible refine Below.drew ?_) | (with_reducible refine below_via (by assumption) ?_) | (with_reducible refine below_sc ?_ ?_ _;· (first | (simp;done) | (simp;omega) | omega))))⟩
set_option maxRecDepth 100000 in
set_option maxHeartbeats 2000000 in
theorem rcast_no3 (n f : Int) (t : ByteArray) (kind : Int) (w : World) (h2 : (kind == 2) = false) :
  Calls Tryz.prog 67 #[.agg #[.int .i64 3,.int .i64 n,.int .u64 f,.string t],.int .i64 kind] w (OutT (.error 1) w):=by
 go_enter Tryz.func67,Tryz.ntmps67
 go_wp2_with fail
 exact bodyPost_ret (v:=errT) (by simp [errT,results,Tryz.results67,go_sem, *]) rfl ⟨rfl,(by repeat (first | (with_reducible exact Below.refl _ _) | (with_reducible refine below_al ?_ _) | (with_reducible refine below_drewN ?_ _) | (with_reducible refine Below.drew ?_) | (with_reducible refine below_via (by assumption) ?_) | (with_reducible refine below_sc ?_ ?_ _;· (first | (simp;done) | (simp;omega) | omega))))⟩
set_option maxRecDepth 100000 in
set_option maxHeartbeats 2000000 in
theorem rcast_no0 (k n f : Int) (t : ByteArray) (kind : Int) (w : World) (h1 : (k == 1) = false) (h2 : (k == 2) = false) (h3 : (k == 3) = false) :
  Calls Tryz.prog 67 #[.agg #[.int .i64 k,.int .i64 n,.int .u64 f,.string t],.int .i64 kind] w (OutT (.error 1) w):=by
 go_enter Tryz.func67,Tryz.ntmps67
 go_wp2_with fail
 exact bodyPost_ret (v:=errT) (by simp [errT,results,Tryz.results67,go_sem, *]) rfl ⟨rfl,(by repeat (first | (with_reducible exact Below.refl _ _) | (with_reducible refine below_al ?_ _) | (with_reducible refine below_drewN ?_ _) | (with_reducible refine Below.drew ?_) | (with_reducible refine below_via (by assumption) ?_) | (with_reducible refine below_sc ?_ ?_ _;· (first | (simp;done) | (simp;omega) | omega))))⟩
theorem rcast_no (k n f : Int) (t : ByteArray) (kind : Int) (w : World) (h1 : (k == 2 && kind == 3) = false) (h2 : (k == 3 && kind == 2) = false) (h3 : (k == 2 && kind == 4) = false) (h4 : (k == 1 && kind == 4) = false) :
    Calls Tryz.prog 67 #[.agg #[.int .i64 k, .int .i64 n, .int .u64 f, .string t], .int .i64 kind] w (OutT (.error 1) w) := by
  cases a1 : (k == 1) with
  | true => obtain rfl : k = 1 := by simpa using a1
            exact rcast_no1 n f t kind w (by simpa using h4)
  | false =>
    cases a2 : (k == 2) with
    | true => obtain rfl : k = 2 := by simpa using a2
              exact rcast_no2 n f t kind w (by simpa using h1) (by simpa using h3)
    | false =>
      cases a3 : (k == 3) with
      | true => obtain rfl : k = 3 := by simpa using a3
                exact rcast_no3 n f t kind w (by simpa using h2)
      | false => exact rcast_no0 k n f t kind w a1 a2 a3
theorem ord_some (f c : Nat) (hN : fNaN f = false) (hc : fNaN c = false) : FloatKind.f64.format.order f c = some .lt ∨ FloatKind.f64.format.order f c = some .eq ∨ FloatKind.f64.format.order f c = some .gt:=by
 have gx : rungW f ≤ 9218868437227405312:=by have:=nan_rung f;rw [hN] at this;simpa using this.symm
 have gy : rungW c ≤ 9218868437227405312:=by have:=nan_rung c;rw [hc] at this;simpa using this.symm
 have ho : FloatKind.f64.format.order f c = some (compare (sr f) (sr c)):=order_sr gx gy
 rw [ho]
 cases compare (sr f) (sr c) <;> simp
theorem cast_nan (f : Nat) (hN : fNaN f = true) : intF f = none:=by
 have:=intF_range f
 rw [nan_rung] at hN
 have h : ¬ (rungW f ≤ 9218868437227405312 ∧ -(W63 : Int) ≤ sr f ∧ sr f < W63):=fun h=>by simp at hN;omega
 rw [decide_eq_false h] at this
 cases hi : intF f with
 | none=>rfl
 | some m=>rw [hi] at this;cases this
theorem cast_yes (f : Nat) (hN : fNaN f = false) (m : Int) (h : intF f = some m) : (FloatKind.f64.format.order f 4890909195324358656 == some .gt) = false ∧ (FloatKind.f64.format.order f 4890909195324358656 == some .eq) = false ∧ (FloatKind.f64.format.order f 14114281232179134464 == some .lt) = false:=by
 have ht:=cast_test' f
 rw [h] at ht
 have h1:=ord_some f 4890909195324358656 hN (by kernel_rfl)
 have h2:=ord_some f 14114281232179134464 hN (by kernel_rfl)
 rcases h1 with e | e | e <;> rcases h2 with e2 | e2 | e2 <;> rw [e,e2] at ht <;> simp at ht <;> rw [e,e2] <;> simp
theorem cast_not (f : Nat) (hN : fNaN f = false) (h : intF f = none) : (FloatKind.f64.format.order f 4890909195324358656 == some .gt) = true ∨ (FloatKind.f64.format.order f 4890909195324358656 == some .gt) = false ∧ (FloatKind.f64.format.order f 4890909195324358656 == some .eq) = true ∨
  (FloatKind.f64.format.order f 4890909195324358656 == some .gt) = false ∧ (FloatKind.f64.format.order f 4890909195324358656 == some .eq) = false ∧ (FloatKind.f64.format.order f 14114281232179134464 == some .lt) = true:=by
 have ht:=cast_test' f
 rw [h] at ht
 have h1:=ord_some f 4890909195324358656 hN (by kernel_rfl)
 have h2:=ord_some f 14114281232179134464 hN (by kernel_rfl)
 rcases h1 with e | e | e <;> rcases h2 with e2 | e2 | e2 <;> rw [e,e2] at ht <;> simp at ht <;> rw [e,e2] <;> simp
set_option maxRecDepth 100000 in
set_option maxHeartbeats 2000000 in
theorem rcast32_some (n : Int) (f : Nat) (t : ByteArray) (m : Int) (w : World) (hm : intF f = some m) : Calls Tryz.prog 67 #[.agg #[.int .i64 3,.int .i64 n,.int .u64 f,.string t],.int .i64 2] w (OutT (.ok ⟨2,m,0,⟨#[]⟩⟩) w):=by
 have h1:=run_frombits
 have hN : fNaN f = false:=by
  cases h : fNaN f with
  | false=>rfl
  | true=>rw [cast_nan f h] at hm;cases hm
 obtain ⟨p1,p2,p3⟩:=cast_yes f hN m hm
 have hcv:=fun w=>run_convert_float_int (P:=Tryz.prog) w 129 3 .f64 .i64 f m (by rw [Tryz.underlying129];rfl) Tryz.underlying3 (by rw [cast_fi,hm])
 have HM:=Lib.hid hm;clear hm
 go_enter Tryz.func67,Tryz.ntmps67
 go_wp2_with (first | (go_at_call 113;refine (rIsNaN_n _ _).mono ?_;rintro e w' ⟨rfl,rfl⟩) | (go_at_call 69;refine (rOfInt_z _ _).mono ?_;rintro e w' ⟨rfl,hb⟩;(try (replace hb:=below_undrew hb));(try (replace hb:=below_undrewN hb));obtain ⟨hc,hf⟩:=bcell hb;(try (have hz0 : w.heap.size < w'.heap.size:=(by have:=hb.size;(try simp at this);omega)));(try (have hz1 : w.heap.size + 1 < w'.heap.size:=(by have:=hb.size;(try simp at this);omega)));(try (have hz2 : w.heap.size + 2 < w'.heap.size:=(by have:=hb.size;(try simp at this);omega)));(try (have hz3 : w.heap.size + 3 < w'.heap.size:=(by have:=hb.size;(try simp at this);omega)))))
 exact bodyPost_ret (v:=.tuple #[.agg #[.int .i64 2,.int .i64 m,.int .u64 0,.string ⟨#[]⟩],.int .i64 0]) (by simp [results,Tryz.results67,go_sem, *]) rfl ⟨rfl,(by repeat (first | (with_reducible exact Below.refl _ _) | (with_reducible refine below_al ?_ _) | (with_reducible refine below_drewN ?_ _) | (with_reducible refine Below.drew ?_) | (with_reducible refine below_via (by assumption) ?_) | (with_reducible refine below_sc ?_ ?_ _;· (first | (simp;done) | (simp;omega) | omega))))⟩
set_option maxRecDepth 100000 in
set_option maxHeartbeats 2000000 in
theorem rcast32_none (n : Int) (f : Nat) (t : ByteArray) (w : World) (hm : intF f = none) : Calls Tryz.prog 67 #[.agg #[.int .i64 3,.int .i64 n,.int .u64 f,.string t],.int .i64 2] w (OutT (.error 11) w):=by
 have h1:=run_frombits
 cases hN : fNaN f with
 | true =>
  clear hm
  go_enter Tryz.func67,Tryz.ntmps67
  go_wp2_with (go_at_call 113;refine (rIsNaN_n _ _).mono ?_;rintro e w' ⟨rfl,rfl⟩)
  exact bodyPost_ret (v:=.tuple #[.agg #[.int .i64 0,.int .i64 0,.int .u64 0,.string ⟨#[]⟩],.int .i64 11]) (by simp [results,Tryz.results67,go_sem, *]) rfl ⟨rfl,(by repeat (first | (with_reducible exact Below.refl _ _) | (with_reducible refine below_al ?_ _) | (with_reducible refine below_drewN ?_ _) | (with_reducible refine Below.drew ?_) | (with_reducible refine below_via (by assumption) ?_) | (with_reducible refine below_sc ?_ ?_ _;· (first | (simp;done) | (simp;omega) | omega))))⟩
 | false =>
  rcases cast_not f hN hm with p1 | ⟨p1,p2⟩ | ⟨p1,p2,p3⟩ <;> clear hm
  all_goals
   go_enter Tryz.func67,Tryz.ntmps67
   go_wp2_with (go_at_call 113;refine (rIsNaN_n _ _).mono ?_;rintro e w' ⟨rfl,rfl⟩)
   exact bodyPost_ret (v:=.tuple #[.agg #[.int .i64 0,.int .i64 0,.int .u64 0,.string ⟨#[]⟩],.int .i64 11]) (by simp [results,Tryz.results67,go_sem, *]) rfl ⟨rfl,(by repeat (first | (with_reducible exact Below.refl _ _) | (with_reducible refine below_al ?_ _) | (with_reducible refine below_drewN ?_ _) | (with_reducible refine Below.drew ?_) | (with_reducible refine below_via (by assumption) ?_) | (with_reducible refine below_sc ?_ ?_ _;· (first | (simp;done) | (simp;omega) | omega))))⟩
theorem rCast_c (k n f : Int) (t : ByteArray) (kind : Int) (w : World) (hn : I64 n) (hf : U64 f) (hk : k ≠ kind) : Calls Tryz.prog 67 #[.agg #[.int .i64 k,.int .i64 n,.int .u64 f,.string t],.int .i64 kind] w (OutT (castS k n f t kind) w):=by
 by_cases c1 : k = 2 ∧ kind = 3
 ·obtain ⟨rfl,rfl⟩:=c1
  have : castS 2 n f t 3 = .ok ⟨3,0,plainI (floatOfInt .f64 n),⟨#[]⟩⟩:=by simp [castS]
  rw [this];exact rcast23 n f t w
 by_cases c2 : k = 3 ∧ kind = 2
 ·obtain ⟨rfl,rfl⟩:=c2
  obtain ⟨m,rfl⟩:=Int.eq_ofNat_of_zero_le hf.1
  cases hm : intF m with
  | some x =>
   have : castS 3 n (m : Int) t 2 = .ok ⟨2,x,0,⟨#[]⟩⟩:=by simp [castS,hm]
   rw [this];exact rcast32_some n m t x w hm
  | none =>
   have : castS 3 n (m : Int) t 2 = .error 11:=by simp [castS,hm]
   rw [this];exact rcast32_none n m t w hm
 by_cases c3 : k = 2 ∧ kind = 4
 ·obtain ⟨rfl,rfl⟩:=c3
  have : castS 2 n f t 4 = .ok ⟨4,0,0,⟨(Lib.itoa n).toArray⟩⟩:=by simp [castS]
  rw [this];exact rcast24 n f t w hn
 by_cases c4 : k = 1 ∧ kind = 4
 ·obtain ⟨rfl,rfl⟩:=c4
  have : castS 1 n f t 4 = .ok ⟨4,0,0,⟨(Lib.formatBool (n == 1)).toArray⟩⟩:=by simp [castS]
  rw [this];exact rcast14 n f t w
 have e1 : (k == 2 && kind == 3) = false:=by simpa using c1
 have e2 : (k == 3 && kind == 2) = false:=by simpa using c2
 have e3 : (k == 2 && kind == 4) = false:=by simpa using c3
 have e4 : (k == 1 && kind == 4) = false:=by simpa using c4
 have e0 : (k == kind) = false:=by simpa using hk
 have : castS k n f t kind = .error 1:=by unfold castS;rw [e0,e1,e2,e3,e4];rfl
 rw [this];exact rcast_no k n f t kind w e1 e2 e3 e4
end Go.Proofs.YtakcjiinchghaaaGreatDoor
end
section
namespace Go.Proofs.YtakcjiinchghaaaGreatDoor
set_option linter.unusedVariables false
set_option linter.unusedSimpArgs false
open Go.RowKit
def xrCompare.f (k n f : Int) (t : ByteArray) (k' n' f' : Int) (t' : ByteArray) : Option Int:=if (0 ≤ f ∧ f < 18446744073709551616) ∧ (0 ≤ f' ∧ f' < 18446744073709551616) then some (cmpV k n f t k' n' f' t') else none
theorem xrCompare.calls (k n f : Int) (t : ByteArray) (k' n' f' : Int) (t' : ByteArray) (r : Int) (w : World) (h : xrCompare.f k n f t k' n' f' t' = some r) :
  Calls Tryz.prog 72 #[.agg #[.int .i64 k,.int .i64 n,.int .u64 f,.string t],.agg #[.int .i64 k',.int .i64 n',.int .u64 f',.string t']] w fun e w'=>e = .returned (.int .i64 r) ∧ Below w.heap.size w w':=by
 obtain ⟨⟨hn,hn'⟩,rfl⟩:=ext_of h
 exact rCompare_v k n f t k' n' f' t' w hn hn'
def xrCast.f (k n f : Int) (t : ByteArray) (kind : Int) : Option (Int × Int × Int × ByteArray × Int) :=
 if (-9223372036854775808 ≤ n ∧ n ≤ 9223372036854775807) ∧ (0 ≤ f ∧ f < 18446744073709551616) ∧ k ≠ kind then some (tupD (castS k n f t kind)) else none
theorem xrCast.calls (k n f : Int) (t : ByteArray) (kind : Int) (r1 r2 r3 : Int) (r4 : ByteArray) (r5 : Int) (w : World) (h : xrCast.f k n f t kind = some (r1,r2,r3,r4,r5)) :
  Calls Tryz.prog 67 #[.agg #[.int .i64 k,.int .i64 n,.int .u64 f,.string t],.int .i64 kind] w fun e w'=>e = .returned (.tuple #[.agg #[.int .i64 r1,.int .i64 r2,.int .u64 r3,.string r4],.int .i64 r5]) ∧ Below w.heap.size w w':=by
 obtain ⟨⟨hn,hf,hk⟩,he⟩:=ext_of h
 simp only [tupD,Prod.mk.injEq] at he
 obtain ⟨rfl,rfl,rfl,rfl,rfl⟩:=he
 exact rCast_c k n f t kind w hn hf hk
def xrFloats.f (code x y : Int) : Option (Int × Int × Int × ByteArray):=some (3,0,floatS code x.toNat y.toNat,⟨#[]⟩)
theorem xrFloats.calls (code x y : Int) (r1 r2 r3 : Int) (r4 : ByteArray) (w : World) (h : xrFloats.f code x y = some (r1,r2,r3,r4)) :
  Calls Tryz.prog 74 #[.int .i64 code,.int .u64 x,.int .u64 y] w fun e w'=>e = .returned (.agg #[.int .i64 r1,.int .i64 r2,.int .u64 r3,.string r4]) ∧ Below w.heap.size w w':=by
 simp only [xrFloats.f,Option.some.injEq,Prod.mk.injEq] at h
 obtain ⟨rfl,rfl,rfl,rfl⟩:=h
 exact rFloats_c code x y w
end Go.Proofs.YtakcjiinchghaaaGreatDoor
end
section
namespace Go.Proofs.YtakcjiinchghaaaGreatDoor
set_option linter.unusedVariables false
set_option linter.unusedSimpArgs false
open Go.RowKit Go.Proofs.YtakcjiinchghaaaGreatDoorW.PrintWords Go.Proofs.YtakcjiinchghaaaGreatDoorW.PrintLast PRW Go.Sort
theorem grow_none (w : World) : grow w #[] = w:=by simp [grow]
theorem sortI_c {W : World} {base : Nat} {A : Option Addr} {n c : Nat} {xs : List Int} {ok : Nat → Prop} (hR : Kd.R (Kd.int .i64) 3 W base ok (.slice A n c) xs) (hl : xs.length ≤ 2513169434843) :
  Calls Tryz.prog 47 #[.slice A n c] W fun e w'=>e = .returned (.tuple #[]) ∧ Kd.R (Kd.int .i64) 3 w' base ok (.slice A n c) (xs.mergeSort fun x y=>decide (x ≤ y)) ∧ Below base W w':=by
 obtain ⟨hn,hnc,_⟩:=Kd.R_reads' hR
 subst hn
 have hok:=hR.1
 have ho:=Kd.own_of_R hR
 rcases ho.2 with ⟨h0,h1⟩ | ⟨g,cap,cur,hv,hg,hb,h1,h2,h3,h4⟩
 ·injection h0 with a1 a2 a3
  have : xs = []:=List.eq_nil_of_length_eq_zero a2
  subst this
  refine (Tryz.slices_Sort_int_none A c W).mono ?_
  rintro e w' ⟨rfl,rfl⟩
  exact ⟨rfl,by simpa using hR,Below.refl _ _⟩
 ·injection hv with a1 a2 a3
  subst a1;subst a3
  have hlt : g < W.heap.size:=(Array.getElem?_eq_some_iff.1 hb).1
  have hx : cur.toList.take xs.length = xs.map (Value.int .i64):=by simpa [encs] using h4
  refine (Tryz.slices_Sort_int g 0 _ xs W (holds_of_blockI hb hx) hlt (by omega)).mono ?_
  rintro e w' ⟨rfl,m,os,rfl⟩
  have hlen : (xs.mergeSort fun x y=>decide (x ≤ y)).length = xs.length:=List.length_mergeSort _
  refine ⟨rfl,Kd.R_of_own (by rw [hlen];exact ownsRow_sortedI (ss:=xs) hlen hg hb h1 h2 h3) hok, ?_⟩
  exact (Below.refl _ _).grown (grownBy_sortedI _) (by omega) (fun k h=>by cases h;exact hg)
theorem compactUp_len (d : Array Int) : ∀ m,(Lib.compactUpTo d m).length ≤ m
 | 0=>by simp [Lib.compactUpTo]
 | m + 1=>by
  rw [Lib.compactUpTo_succ,List.length_append]
  have:=compactUp_len d m
  split <;> simp <;> omega
theorem compact_len (xs : List Int) : (Lib.compact xs).length ≤ xs.length:=compactUp_len _ _
theorem compactI_c {W : World} {base : Nat} {A : Option Addr} {n c : Nat} {xs : List Int} {ok : Nat → Prop} (hR : Kd.R (Kd.int .i64) 3 W base ok (.slice A n c) xs) (hl : xs.length ≤ 2513169434843) :
  Calls Tryz.prog 48 #[.slice A n c] W fun e w'=>∃ v,e = .returned v ∧ Kd.R (Kd.int .i64) 3 w' base ok v (Lib.compact xs) ∧ Below base W w':=by
 obtain ⟨hn,hnc,_⟩:=Kd.R_reads' hR
 subst hn
 have hok:=hR.1
 have ho:=Kd.own_of_R hR
 rcases ho.2 with ⟨h0,h1⟩ | ⟨g,cap,cur,hv,hg,hb,h1,h2,h3,h4⟩
 ·injection h0 with a1 a2 a3
  have : xs = []:=List.eq_nil_of_length_eq_zero a2
  subst this
  refine (Tryz.slices_Compact_int_empty A c W).mono ?_
  rintro e w' ⟨rfl,rfl⟩
  exact ⟨_,rfl,hR,Below.refl _ _⟩
 ·injection hv with a1 a2 a3
  subst a1;subst a3
  have hlt : g < W.heap.size:=(Array.getElem?_eq_some_iff.1 hb).1
  have hx : cur.toList.take xs.length = xs.map (Value.int .i64):=by simpa [encs] using h4
  refine (Tryz.slices_Compact_int g 0 _ xs W (holds_of_blockI hb hx) (by omega) hnc).mono ?_
  rintro e w' ⟨rfl,q,rfl⟩
  have hle:=compact_len xs
  obtain ⟨ts,hts⟩ : ∃ ts,Lib.compact xs ++ List.replicate (xs.length - (Lib.compact xs).length) 0 = ts:=⟨_,rfl⟩
  have hlen : ts.length = xs.length:=by rw [← hts];simp;omega
  rw [hts]
  have key : Kd.R (Kd.int .i64) 3 (grow (putRow (Value.int .i64) (Sort.ahead W q) g 0 ts.toArray) #[]) base ok (.slice (some ⟨g,0,none⟩) xs.length c) ts:=Kd.R_of_own (by rw [hlen];exact ownsRow_sortedI (ss:=xs) hlen hg hb h1 h2 h3) hok
  rw [grow_none] at key
  have hB:=(Below.refl base W).grown (grownBy_sortedI (w:=W) (g:=g) (n:=q) (os:=#[]) ts.toArray) (by omega) (fun k h=>by cases h;exact hg)
  rw [grow_none] at hB
  refine ⟨_,rfl, ?_,hB⟩
  have:=Kd.R_take (m:=(Lib.compact xs).length) key (by omega)
  have e9 : ts.take (Lib.compact xs).length = Lib.compact xs:=by rw [← hts,List.take_left]
  rwa [e9] at this
end Go.Proofs.YtakcjiinchghaaaGreatDoor
end
section
namespace Go.Proofs.YtakcjiinchghaaaGreatDoor
set_option linter.unusedVariables false
set_option linter.unusedSimpArgs false
open Go.RowKit Go.Proofs.YtakcjiinchghaaaGreatDoorW.PrintWords Go.Proofs.YtakcjiinchghaaaGreatDoorW.PrintLast PRW
/-- the columns that steps name, in their order -/
def namesE (e : List S41) : List Int:=(e.filter fun d=>decide (d.f0 = 2)).map fun d=>d.f1
def colsE (e : List S41) : List Int:=Lib.compact ((namesE e).mergeSort fun x y=>decide (x ≤ y))
theorem names_len (e : List S41) : (namesE e).length ≤ e.length:=by unfold namesE;rw [List.length_map];exact List.length_filter_le _ _
theorem names_take {e : List S41} {i : Nat} {d : S41} (hd : e[i]? = some d) : namesE (e.take (i + 1)) = namesE (e.take i) ++ (if d.f0 = 2 then [d.f1] else []):=by
 have hi : i < e.length:=(List.getElem?_eq_some_iff.1 hd).1
 have he : e[i] = d:=(List.getElem?_eq_some_iff.1 hd).2
 unfold namesE
 rw [List.take_succ_eq_append_getElem hi,List.filter_append,List.map_append,he]
 split <;> rename_i h <;> simp [h]
theorem infoI : (Tryz.prog.info? 3).map (fun i=>(i.zero,i.size,i.bytes)) = some (some (.int .i64 0),1,8):=by kernel_rfl
set_option maxRecDepth 100000 in
set_option maxHeartbeats 8000000 in
theorem cols_c (A : Option Addr) (c : Nat) (e : List S41) (w : World) (hC : Kd.C k41 w A e.length e) (hl : e.length ≤ 2513169434843) :
  Calls Tryz.prog 23 #[.slice A e.length c] w fun en w'=>∃ v,en = .returned v ∧ Kd.R (Kd.int .i64) 3 w' w.heap.size (fun _=>True) v (colsE e) ∧ Below w.heap.size w w':=by
 have HC:=hidF hC
 clear hC
 go_enter Tryz.func23,Tryz.ntmps23
 go_wp2
 go_loopw [3,8] (fun v3 v wr=>∃ i : Nat,v = .int .i64 (i : Int) ∧ i ≤ e.length ∧ Hid (Below w.heap.size w wr) ∧ Hid (Kd.R (Kd.int .i64) 3 wr w.heap.size (fun _=>True) v3 (namesE (e.take i)))) (fun _ v _=>e.length - natOfV v)
 case atStart=>exact ⟨0,rfl,by omega,hidF (Below.refl _ _),hidF (Kd.R_nil _ _ _ _ _)⟩
 case round =>
  obtain ⟨i,rfl,hil,HB,HR⟩:=hrel
  by_cases hlt : i < e.length
  ·obtain ⟨d,hd⟩ : ∃ d,e[i]? = some d:=⟨_,List.getElem?_eq_getElem hlt⟩
   have rdd : rd_T41 e (i : Int) = d:=by
    unfold rd_T41
    simp only [Int.toNat_natCast,List.getD_eq_getElem?_getD]
    rw [hd];rfl
   obtain ⟨ad,ea,k0,k1,k2,k3,k4,k5⟩:=at_T41 (Kd.C_below HC.out HB.out) (i : Int) (by omega) (by omega)
   cases ea
   rw [rdd] at k0 k1 k2 k3 k4 k5
   simp only [Int.toNat_natCast] at k0 k1 k2 k3 k4 k5
   have hii : (i : Int) < (e.length : Int):=by omega
   have hwle:=HB.out.size
   have HN:=hidF (names_take hd)
   have hnl : (namesE (e.take i)).length ≤ i:=Nat.le_trans (names_len _) (by simp;omega)
   by_cases h2 : d.f0 = 2
   ·rw [if_pos h2] at HN
    obtain ⟨A1,c1,rfl⟩:=Kd.R_slice HR.out
    have e2 : (d.f0 == 2) = true:=beq_iff_eq.2 h2
    obtain ⟨W1,hW1⟩ : ∃ W1,wr.alloc (.cells #[.int .i64 d.f0,.int .i64 d.f1,.int .i64 d.f2.f0,.int .i64 d.f2.f1,.int .u64 d.f2.f2,.string d.f2.f3] 41) = W1:=⟨_,rfl⟩
    obtain ⟨D,hD⟩ : ∃ D,wr.heap.size = D:=⟨_,rfl⟩
    have hDz : w.heap.size ≤ W1.heap.size:=by rw [← hW1];simp;omega
    have HBa:=hidF (show Below w.heap.size w W1 by rw [← hW1];exact HB.out.alloc HB.out.size _)
    have HRa:=hidF (show Kd.R (Kd.int .i64) 3 W1 w.heap.size (fun _=>True) _ (namesE (e.take i)) by rw [← hW1];exact Kd.R_alloc HR.out _)
    have m0 : W1.cell? ⟨D,0,none⟩ = some (.int .i64 d.f0):=by rw [← hW1,← hD];exact (blk_cell (heap_alloc_new _ _) 0).trans rfl
    have m1 : W1.cell? ⟨D,1,none⟩ = some (.int .i64 d.f1):=by rw [← hW1,← hD];exact (blk_cell (heap_alloc_new _ _) 1).trans rfl
    clear hd rdd h2
    go_wp2_with (first | ((with_reducible refine gate_dst (N:=19) rfl ?_);refine Kd.R_append (Kd.int .i64) (w0:=w) w.heap.size rfl (.tmp 15) (.tmp 18) 39 3 (.int .i64 0) 8 rfl Tryz.underlying39 infoI rfl (by decide) (by omega) (.slice A1 _ c1) (namesE (e.take i)) d.f1 [.int .i64 d.f1] (fun _=>True) (fun _=>False) rfl rfl ?aP (fun _ hk=>hk.elim) ?aF ?aO ?aB ?aS ?aL ?_;(case aP=>exact rfl);(case aF=>exact (fun _ _=>trivial));(case aO=>exact (by (with_reducible repeat (first | apply Kd.R_alloc | apply Kd.R_drewN | apply Kd.R_drew));exact HRa.out));(case aB=>exact HBa.out);(case aS=>exact hDz);(case aL=>omega);intro v1 w1 ho hb hg hat;have HO:=hidF ho;have HB1:=hidF hb;clear ho hb hg hat))
    go_roundw
    case rel=>exact ⟨i + 1,by go_num,by omega,HB1,hidF (by rw [HN.out];exact HO.out)⟩
    case measure=>simp [natOfV];omega
   ·rw [if_neg h2,List.append_nil] at HN
    have e2 : (d.f0 == 2) = false:=beq_eq_false_iff_ne.2 h2
    clear hd rdd h2
    go_wp2_with fail
    go_roundw
    case rel=>exact ⟨i + 1,by go_num,by omega,hidF (HB.out.alloc HB.out.size _),hidF (by rw [HN.out];exact Kd.R_alloc HR.out _)⟩
    case measure=>simp [natOfV];omega
  ·have hie : i = e.length:=by omega
   have HR2 : Hid (Kd.R (Kd.int .i64) 3 wr w.heap.size (fun _=>True) _ (namesE e)):=hidF (by have:=HR.out;rwa [hie,List.take_of_length_le (Nat.le_refl _)] at this)
   have hnl:=hidF (Nat.le_trans (names_len e) hl)
   obtain ⟨A1,c1,rfl⟩:=Kd.R_slice HR2.out
   have hii : ¬ (i : Int) < (e.length : Int):=by omega
   clear hie hlt hil HR
   go_wp2_with (first
    | (go_at_call 47;((with_reducible refine (sortI_c HR2.out hnl.out).mono ?_);rintro en w1 ⟨rfl,h1,hb1⟩;have HR3:=hidF h1;have HB1:=hidF hb1;clear h1 hb1))
    | (go_at_call 48;((with_reducible refine (compactI_c HR3.out (by rw [List.length_mergeSort];exact hnl.out)).mono ?_);rintro en w2 ⟨v2,rfl,h1,hb1⟩;have HR4:=hidF h1;have HB2:=hidF hb1;clear h1 hb1)))
   exact bodyPost_ret (v:=v2) (by simp [results,Tryz.results23,go_sem, *]) rfl ⟨_,rfl,HR4.out,HB.out.trans (HB1.out.trans HB2.out)⟩
end Go.Proofs.YtakcjiinchghaaaGreatDoor
end
section
namespace Go.Proofs.YtakcjiinchghaaaGreatDoor
set_option linter.unusedVariables false
set_option linter.unusedSimpArgs false
open Go.RowKit Go.Proofs.YtakcjiinchghaaaGreatDoorW.PrintWords Go.Proofs.YtakcjiinchghaaaGreatDoorW.PrintLast PRW PRE
theorem fRes_U (o : Option Nat) (h : ∀ r,o = some r → r < 2 ^ 64) : U64 (fRes o):=by
 cases o with
 | none=>exact ⟨by decide,by decide⟩
 | some r =>
  have h1 : r < 2 ^ 64:=h r rfl
  exact plain_U64 ⟨by omega,by omega⟩
theorem floatS_U (code : Int) (x y : Nat) : U64 (floatS code x y):=by
 unfold floatS
 refine fRes_U _ (fun r h=>?_)
 split at h
 ·exact Ieee.double.add_lt h
 ·split at h
  ·exact Ieee.double.sub_lt h
  ·split at h
   ·exact Ieee.double.mul_lt h
   ·exact Ieee.double.div_lt h
theorem negFloat_U {f : Int} (h : U64 f) : U64 (Op.negFloat .f64 f.toNat : Int):=by
 obtain ⟨h0,h1⟩:=h
 have e0 : Op.negFloat .f64 f.toNat = f.toNat ^^^ 2 ^ 63:=rfl
 have lt : f.toNat ^^^ 2 ^ 63 < 2 ^ 64:=Nat.xor_lt_two_pow (by omega) (by decide)
 exact ⟨by omega,by rw [e0];omega⟩
theorem floatOfInt_U (n : Int) : U64 (floatOfInt .f64 n : Int):=by
 have h : floatOfInt .f64 n < 2 ^ 64:=FloatKind.f64.format.write_lt (.number (n < 0) n.natAbs 0)
 exact ⟨by omega,by omega⟩
/-- the bits of what comes of a step -/
def UR : Except Int V → Prop
 | .ok v=>U64 v.f
 | .error _=>True
theorem u0 : U64 0:=⟨by decide,by decide⟩
theorem castS_U {k n f : Int} {t : ByteArray} {kind : Int} (hf : U64 f) : UR (castS k n f t kind):=by
 unfold castS
 split
 ·exact hf
 ·split
  ·exact plain_U64 (floatOfInt_U n)
  ·split
   ·split
    ·exact u0
    ·trivial
   ·split
    ·exact u0
    ·split
     ·exact u0
     ·trivial
theorem negS_U {k n f : Int} (hf : U64 f) : UR (negS k n f):=by
 unfold negS
 split
 ·split
  ·trivial
  ·exact u0
 ·split
  ·exact plain_U64 (negFloat_U hf)
  ·trivial
theorem oneS_U {code kind k n f : Int} {t : ByteArray} (hf : U64 f) : UR (oneS code kind k n f t):=by
 unfold oneS
 split
 ·trivial
 ·split
  ·exact u0
  ·split
   ·trivial
   ·split
    ·exact hf
    ·split
     ·exact castS_U hf
     ·split
      ·exact negS_U hf
      ·split
       ·exact u0
       ·trivial
theorem twoS_U {code k n f : Int} {t : ByteArray} {k' n' f' : Int} {t' : ByteArray} (hf : U64 f) (hf' : U64 f') : UR (twoS code k n f t k' n' f' t'):=by
 unfold twoS
 split
 ·trivial
 ·split
  ·unfold logicS
   split
   ·trivial
   ·split
    ·exact u0
    ·split
     ·exact u0
     ·exact u0
  ·split
   ·trivial
   ·split
    ·split
     ·exact hf'
     ·exact hf
    ·split
     ·trivial
     ·split
      ·exact u0
      ·split
       ·exact u0
       ·split
        ·unfold textS
         split
         ·exact u0
         ·trivial
        ·split
         ·exact floatS_U _ _ _
         ·cases intsS code n n' with
          | ok x=>exact u0
          | error c=>trivial
theorem celR_U {r : Except Int V} (h : UR r) : U64 (celR (resV r)).v.f2:=by
 cases r with
 | ok v=>exact h
 | error c=>exact u0
theorem good_oneU (d : S41) (a : Cel) (h : GoodU a) : GoodU (oneC d a):=by
 refine ⟨good_one d a h.1, ?_⟩
 unfold oneC
 split
 ·exact h.2
 ·exact celR_U (oneS_U h.2)
theorem good_twoU (d : S41) (a b : Cel) (h : GoodU a) (h' : GoodU b) : GoodU (twoC d a b):=by
 refine ⟨good_two d a b h.1 h'.1, ?_⟩
 unfold twoC
 split
 ·exact u0
 ·exact celR_U (twoS_U h.2 h'.2)
theorem mrun_inv {D T : Type} {cod : D → Int} {n0 : D → T} {n1 : D → T → T} {n2 : D → T → T → T} {P : T → Prop} (h0 : ∀ d,P (n0 d)) (h1 : ∀ d a,P a → P (n1 d a)) (h2 : ∀ d a b,P a → P b → P (n2 d a b)) :
  ∀ (e : List D) (st : List T),(∀ y ∈ st,P y) → ∀ y ∈ mrun cod n0 n1 n2 e st,P y
 | [],st,hs=>by rw [mrun];exact hs
 | d :: e,st,hs=>by
  rw [mrun]
  refine mrun_inv h0 h1 h2 e _ ?_
  unfold mstep
  intro y hy
  split at hy
  ·split at hy
   ·rename_i b a t _
    rcases List.mem_cons.1 hy with rfl | hy
    ·exact h2 _ _ _ (hs _ (by simp)) (hs _ (by simp))
    ·exact hs y (by simp [hy])
   ·exact hs y hy
  ·split at hy
   ·split at hy
    ·rcases List.mem_cons.1 hy with rfl | hy
     ·exact h1 _ _ (hs _ (by simp))
     ·exact hs y (by simp [hy])
    ·exact hs y hy
   ·rcases List.mem_cons.1 hy with rfl | hy
    ·exact h0 d
    ·exact hs y hy
def errZ (x : Cel) : Prop:=x.e ≠ 0 → x.v = zV
theorem celR_Z {r : Except Int V} : errZ (celR (resV r)):=by
 cases r with
 | ok v=>intro h;exact absurd rfl h
 | error c=>intro _;rfl
theorem run_errZ (r : List S29) (e : List S41) : ∀ y ∈ runC r e [],errZ y:=by
 refine mrun_inv (fun d h=>absurd rfl h) (fun d a h=>?_) (fun d a b _ _=>?_) e [] (fun y hy=>by cases hy)
 ·unfold oneC
  split
  ·exact h
  ·exact celR_Z
 ·unfold twoC
  split
  ·intro _;rfl
  ·exact celR_Z
end Go.Proofs.YtakcjiinchghaaaGreatDoor
end
