/- a part of the claim: what the card leans on, out of the texts PZLSx1 (put together by wip/tools/shake.py). -/
import Derived.Test.YthpkjkcfhipjhaaGreatDoorSS1
import Derived.Test.YthpkjkcfhipjhaaGreatDoorSS2
import Derived.Test.YthpkjkcfhipjhaaGreatDoorSS4
import Derived.Test.YthpkjkcfhipjhaaGreatDoorSS5
import Derived.Test.YthpkjkcfhipjhaaGreatDoorSS6
import Derived.Test.YthpkjkcfhipjhaaGreatDoorSS7
import Derived.Test.YthpkjkcfhipjhaaGreatDoorSS9
import Derived.Test.YthpkjkcfhipjhaaGreatDoorSS10
import Derived.Test.YthpkjkcfhipjhaaGreatDoorSS12
import Derived.Test.YthpkjkcfhipjhaaGreatDoorSS13
import Derived.Test.YthpkjkcfhipjhaaGreatDoorSS14
import Derived.Test.YthpkjkcfhipjhaaGreatDoorProg
import Derived.Below
import Derived.Deep.Draws
import Derived.Deep.AppendLies
import Derived.Maps.AppendAt
import Derived.OwnWalk
import Derived.Laws.BytesArg
import Derived.Laws.MakeOwn
import Derived.Laws.OwnMore
import Derived.Deep.OwnRows
import Derived.Tactics
import Derived.Lib.ConvBytes
import Derived.Laws.Slices
import Derived.WalkKit
import Derived.KernelRfl
import Derived.RowKit3
import Derived.Deep.LoopGhost
import Derived.Deep.QuietTactic
import Derived.BigQuiet
import Derived.WideLaws
import Derived.Deep.DeepCutAuto
import Derived.Deep.CutBlock
import Derived.Deep.RegionHeld3
import Derived.Laws.Rows
import Derived.Lib.AppendStr
import Derived.ArgAppend
import Derived.Laws.IdiomCopy
import Derived.OrdersHeld
import Derived.Laws.BitsLemmas
import Derived.RowKit
section
namespace Go.Proofs.YthpkjkcfhipjhaaGreatDoor.PZLS
open Go.RowKit Go.Proofs.YthpkjkcfhipjhaaGreatDoorW.PrintWords Go.Proofs.YthpkjkcfhipjhaaGreatDoorW.PrintLast Go.Proofs.YthpkjkcfhipjhaaGreatDoor.PRW Go.Proofs.YthpkjkcfhipjhaaGreatDoor.PZA Go.Proofs.YthpkjkcfhipjhaaGreatDoor.PZF Go.Proofs.YthpkjkcfhipjhaaGreatDoor.PZB
set_option linter.unusedVariables false
set_option linter.unusedSimpArgs false
mutual
def freshetlaw03_ZsetSums.j0 : Nat → List (S48) → List (S48) → Bool → Option (Bool)
 | 0,_,_,_=>none
 | k + 1,x0,x1,x18=>if x18 = true then (some true) else ((xAdd.f x0 x1).bind fun bt102=>((xAdd3.f x0 x1).bind fun bt106=>((freshetref03_Same.f k bt102.1 bt106.1).bind fun t110=>(if t110 = true then (freshetlaw03_ZsetSums.j1 k x0 x1 (bt102.2 != bt106.2)) else (freshetlaw03_ZsetSums.j1 k x0 x1 true)))))
def freshetlaw03_ZsetSums.j1 : Nat → List (S48) → List (S48) → Bool → Option (Bool)
 | 0,_,_,_=>none
 | k + 1,x0,x1,x39=>if x39 = true then (some false) else ((zset_Sub.f k x0 x1).bind fun bt111=>((xSub3.f x0 x1).bind fun bt115=>((freshetref03_Same.f k bt111.1 bt115.1).bind fun t119=>(if t119 = true then (freshetlaw03_ZsetSums.j2 k x0 (bt111.2 != bt115.2)) else (freshetlaw03_ZsetSums.j2 k x0 true)))))
def freshetlaw03_ZsetSums.j2 : Nat → List (S48) → Bool → Option (Bool)
 | 0,_,_=>none
 | k + 1,x0,x60=>if x60 = true then (some false) else ((zset_Neg.f k x0).bind fun bt120=>((freshetref03_Neg.f k x0).bind fun bt124=>((freshetref03_Same.f k bt120.1 bt124.1).bind fun t128=>(if t128 = true then (some (bt120.2 == bt124.2)) else (some false)))))
end
def freshetlaw03_ZsetSums.f (k : Nat) (l0 : List (S48)) (l1 : List (S48)) : Option (Bool):=(xAwake3.f).bind fun t101=>(if t101 = true then (if (l0.length : Int) > 400 then (freshetlaw03_ZsetSums.j0 k l0 l1 true) else (freshetlaw03_ZsetSums.j0 k l0 l1 (decide ((l1.length : Int) > 400)))) else (some false))
theorem freshetlaw03_ZsetSums.mono_l : ∀ k,(∀ y0 y1 y2,LeO (freshetlaw03_ZsetSums.j0 k y0 y1 y2) (freshetlaw03_ZsetSums.j0 (k + 1) y0 y1 y2)) ∧ (∀ y0 y1 y2,LeO (freshetlaw03_ZsetSums.j1 k y0 y1 y2) (freshetlaw03_ZsetSums.j1 (k + 1) y0 y1 y2)) ∧ (∀ y0 y1,LeO (freshetlaw03_ZsetSums.j2 k y0 y1) (freshetlaw03_ZsetSums.j2 (k + 1) y0 y1))
 | 0=>⟨fun _ _ _ r h=>by simp [freshetlaw03_ZsetSums.j0] at h,fun _ _ _ r h=>by simp [freshetlaw03_ZsetSums.j1] at h,fun _ _ r h=>by simp [freshetlaw03_ZsetSums.j2] at h⟩
 | k + 1=>by
  obtain ⟨ih0,ih1,ih2⟩:=freshetlaw03_ZsetSums.mono_l k
  refine ⟨?_, ?_, ?_⟩
  ·intro y0 y1 y2
   unfold freshetlaw03_ZsetSums.j0
   repeat' first
   | (with_reducible exact ih0 _ _ _)
   | (with_reducible exact ih1 _ _ _)
   | (with_reducible exact ih2 _ _)
   | (with_reducible exact freshetref03_Neg.mono _ _)
   | (with_reducible exact freshetref03_Same.mono _ _ _)
   | (with_reducible exact zset_Neg.mono _ _)
   | (with_reducible exact zset_Sub.mono _ _ _)
   | (with_reducible exact LeO.refl _)
   | (with_reducible exact LeO.none _)
   | (with_reducible refine LeO.ite ?_ ?_)
   | (with_reducible refine LeO.bind ?_ (fun _=>?_))
   | exact ih0 _ _ _
   | exact ih1 _ _ _
   | exact ih2 _ _
   | exact freshetref03_Neg.mono _ _
   | exact freshetref03_Same.mono _ _ _
   | exact zset_Neg.mono _ _
   | exact zset_Sub.mono _ _ _
   | exact LeO.none _
   | refine LeO.ite ?_ ?_
   | refine LeO.bind ?_ (fun _=>?_)
  ·intro y0 y1 y2
   unfold freshetlaw03_ZsetSums.j1
   repeat' first
   | (with_reducible exact ih0 _ _ _)
   | (with_reducible exact ih1 _ _ _)
   | (with_reducible exact ih2 _ _)
   | (with_reducible exact freshetref03_Neg.mono _ _)
   | (with_reducible exact freshetref03_Same.mono _ _ _)
   | (with_reducible exact zset_Neg.mono _ _)
   | (with_reducible exact zset_Sub.mono _ _ _)
   | (with_reducible exact LeO.refl _)
   | (with_reducible exact LeO.none _)
   | (with_reducible refine LeO.ite ?_ ?_)
   | (with_reducible refine LeO.bind ?_ (fun _=>?_))
   | exact ih0 _ _ _
   | exact ih1 _ _ _
   | exact ih2 _ _
   | exact freshetref03_Neg.mono _ _
   | exact freshetref03_Same.mono _ _ _
   | exact zset_Neg.mono _ _
   | exact zset_Sub.mono _ _ _
   | exact LeO.none _
   | refine LeO.ite ?_ ?_
   | refine LeO.bind ?_ (fun _=>?_)
  ·intro y0 y1
   unfold freshetlaw03_ZsetSums.j2
   repeat' first
   | (with_reducible exact ih0 _ _ _)
   | (with_reducible exact ih1 _ _ _)
   | (with_reducible exact ih2 _ _)
   | (with_reducible exact freshetref03_Neg.mono _ _)
   | (with_reducible exact freshetref03_Same.mono _ _ _)
   | (with_reducible exact zset_Neg.mono _ _)
   | (with_reducible exact zset_Sub.mono _ _ _)
   | (with_reducible exact LeO.refl _)
   | (with_reducible exact LeO.none _)
   | (with_reducible refine LeO.ite ?_ ?_)
   | (with_reducible refine LeO.bind ?_ (fun _=>?_))
   | exact ih0 _ _ _
   | exact ih1 _ _ _
   | exact ih2 _ _
   | exact freshetref03_Neg.mono _ _
   | exact freshetref03_Same.mono _ _ _
   | exact zset_Neg.mono _ _
   | exact zset_Sub.mono _ _ _
   | exact LeO.none _
   | refine LeO.ite ?_ ?_
   | refine LeO.bind ?_ (fun _=>?_)
theorem freshetlaw03_ZsetSums.mono : ∀ a0 a1 k,LeO (freshetlaw03_ZsetSums.f k a0 a1) (freshetlaw03_ZsetSums.f (k + 1) a0 a1):=by
 intro a0 a1 k
 obtain ⟨ih0,ih1,ih2⟩:=freshetlaw03_ZsetSums.mono_l k
 unfold freshetlaw03_ZsetSums.f
 repeat' first
   | (with_reducible exact ih0 _ _ _)
   | (with_reducible exact ih1 _ _ _)
   | (with_reducible exact ih2 _ _)
   | (with_reducible exact freshetref03_Neg.mono _ _)
   | (with_reducible exact freshetref03_Same.mono _ _ _)
   | (with_reducible exact zset_Neg.mono _ _)
   | (with_reducible exact zset_Sub.mono _ _ _)
   | (with_reducible exact LeO.refl _)
   | (with_reducible exact LeO.none _)
   | (with_reducible refine LeO.ite ?_ ?_)
   | (with_reducible refine LeO.bind ?_ (fun _=>?_))
   | exact ih0 _ _ _
   | exact ih1 _ _ _
   | exact ih2 _ _
   | exact freshetref03_Neg.mono _ _
   | exact freshetref03_Same.mono _ _ _
   | exact zset_Neg.mono _ _
   | exact zset_Sub.mono _ _ _
   | exact LeO.none _
   | refine LeO.ite ?_ ?_
   | refine LeO.bind ?_ (fun _=>?_)
set_option maxHeartbeats 8000000 in
set_option maxRecDepth 100000 in
theorem freshetlaw03_ZsetSums.calls (k : Nat) (A0 : Option Addr) (c0 : Nat) (l0 : List (S48)) (A1 : Option Addr) (c1 : Nat) (l1 : List (S48)) (r : Bool) (w : World) (hr0 : Kd.C k48 w A0 l0.length l0) (hc0 : l0.length ≤ c0) (hr1 : Kd.C k48 w A1 l1.length l1) (hc1 : l1.length ≤ c1) (hT : RTab w) (h : freshetlaw03_ZsetSums.f k l0 l1 = some r) :
  Calls Tryz.prog 4 #[.slice A0 l0.length c0,.slice A1 l1.length c1] w fun e w'=>e = .returned (.bool r) ∧ Below w.heap.size w w':=by
 have HR0:=Aside0.mk hr0
 have HC0:=Aside0.mk hc0
 clear hr0 hc0
 have HR1:=Aside0.mk hr1
 have HC1:=Aside0.mk hc1
 clear hr1 hc1
 have HB:=Aside0.mk (Below.refl w.heap.size w)
 have HT:=Aside0.mk hT
 clear hT
 have H : ((xAwake3.f).bind fun t101=>(if t101 = true then (if (l0.length : Int) > 400 then (freshetlaw03_ZsetSums.j0 k l0 l1 true) else (freshetlaw03_ZsetSums.j0 k l0 l1 (decide ((l1.length : Int) > 400)))) else (some false))) = some r:=h
 clear h
 replace H:=Option.bind_eq_some_iff.mp H
 obtain ⟨t101,A30,H⟩:=H
 replace H : (if t101 = true then (if (l0.length : Int) > 400 then (freshetlaw03_ZsetSums.j0 k l0 l1 true) else (freshetlaw03_ZsetSums.j0 k l0 l1 (decide ((l1.length : Int) > 400)))) else (some false)) = some r:=H
 have A3:=Aside0.mk A30
 clear A30
 by_cases c4 : t101 = true
 ·subst c4
  have H1 : (if (l0.length : Int) > 400 then (freshetlaw03_ZsetSums.j0 k l0 l1 true) else (freshetlaw03_ZsetSums.j0 k l0 l1 (decide ((l1.length : Int) > 400)))) = some r:=by rw [if_pos rfl] at H;exact H
  clear H
  have H:=H1
  clear H1
  have HC5:=Aside0.mk H
  clear H
  go_enter Tryz.func4,Tryz.ntmps4
  go_upto_region 3 with (first | ((with_reducible refine gate_callee (f:=6) rfl ?_);refine goesL_ (some 9) rfl rfl Tryz.func6 (by kernel_rfl) rfl #[] rfl (by (try simp only [List.map_toArray,List.map_cons,List.map_nil]);first | done | rfl | (simp only [List.length_drop,List.length_take];rfl)) ?_;(with_reducible refine (xAwake3.calls  true _ ?side1 A3.out).mono ?_);(case side1=>first | exact HT.out | exact tab_at HT.out (by repeat (first | (with_reducible first | exact HB.out | apply below_alloc | apply pw_below_drewN | apply below_drew1) | exact HB.out)) | (repeat (first | exact HT.out | refine tab_drewN ?_ | refine tab_drew ?_)));rintro e w6 ⟨rfl,hb⟩;refine ⟨_,rfl, ?_⟩;have n0_:=Aside0.mk (below_step (by repeat (first | (with_reducible first | exact HB.out | apply below_alloc | apply pw_below_drewN | apply below_drew1) | exact HB.out)) hb);clear HB;have HB:=n0_;clear n0_;(try clear hb);(try clear hb2);(try clear hk);(try clear hi)))
  (try simp only [Act.put,List.setIfInBounds_toArray,List.set_cons_zero,List.set_cons_succ])
  go_cut [18] (fun v18 wc=>∃ (kq : Nat) (x18_4 : Bool),v18 = .bool x18_4 ∧ Aside0 (freshetlaw03_ZsetSums.j0 kq l0 l1 x18_4 = some r) ∧ Aside0 (kq ≤ k) ∧ Aside0 (Below w.heap.size w wc))
  case first =>
   have H:=HC5.out
   clear HC5
   by_cases c7 : (l0.length : Int) > 400
   ·rw [if_pos c7] at H
    have c7b0 : decide (400 < (l0.length : Int)) = true:=decide_eq_true c7
    have c7b1 : decide (400 < l0.length) = true:=decide_eq_true (by omega)
    clear c7
    (first | rw [c7b0] | (simp only [i64_w,i32_w];rw [c7b0]) | skip)
    have H':=Aside0.mk H
    clear H
    go_wp2
    go_meet
    case rel=>exact ⟨_,(true),(by first | rfl | (simp;done) | (simp [*];done)),H',⟨by first | omega | exact Nat.le_refl _⟩,⟨by repeat (first | (with_reducible first | exact HB.out | apply below_alloc | apply pw_below_drewN | apply below_drew1) | exact HB.out)⟩⟩
   ·rw [if_neg c7] at H
    have c7b0 : decide (400 < (l0.length : Int)) = false:=decide_eq_false c7
    have c7b1 : decide (400 < l0.length) = false:=decide_eq_false (by omega)
    clear c7
    (first | rw [c7b0] | (simp only [i64_w,i32_w];rw [c7b0]) | skip)
    have H':=Aside0.mk H
    clear H
    go_wp2
    go_meet
    case rel=>exact ⟨_,(decide ((l1.length : Int) > 400)),(by first | rfl | (simp;done) | (simp [*];done)),H',⟨by first | omega | exact Nat.le_refl _⟩,⟨by repeat (first | (with_reducible first | exact HB.out | apply below_alloc | apply pw_below_drewN | apply below_drew1) | exact HB.out)⟩⟩
  case rest =>
   clear HC5
   try clear c1
   try clear p2
   try clear c4
   try clear c6
   try clear c7
   try clear c7b0
   try clear c7b1
   obtain ⟨kq,x18_4,rfl,HA,HJ4,HB⟩:=hcut
   cases kq with
   | zero=>exact absurd HA.out (by simp [freshetlaw03_ZsetSums.j0])
   | succ kj4 =>
    have H:=HA.out
    clear HA
    simp only [freshetlaw03_ZsetSums.j0] at H
    by_cases c8 : x18_4 = true
    ·subst c8
     have H1 : (some true) = some r:=by rw [if_pos rfl] at H;exact H
     clear H
     have H:=H1
     clear H1
     obtain rfl:=Option.some.inj H
     go_wp2
     go_ret
     exact ⟨by first | rfl | (simp [errW_none,errW_some] <;> rfl) | (simp [*,errW_none,errW_some] <;> rfl),by repeat (first | (with_reducible first | exact HB.out | apply below_alloc | apply pw_below_drewN | apply below_drew1) | exact HB.out)⟩
    ·replace c8:=Bool.eq_false_iff.mpr c8
     subst c8
     have H1 : ((xAdd.f l0 l1).bind fun bt102=>((xAdd3.f l0 l1).bind fun bt106=>((freshetref03_Same.f kj4 bt102.1 bt106.1).bind fun t110=>(if t110 = true then (freshetlaw03_ZsetSums.j1 kj4 l0 l1 (bt102.2 != bt106.2)) else (freshetlaw03_ZsetSums.j1 kj4 l0 l1 true))))) = some r:=by rw [if_neg (show ¬ (false = true) by decide)] at H;exact H
     clear H
     have H:=H1
     clear H1
     replace H:=Option.bind_eq_some_iff.mp H
     obtain ⟨⟨t102,t103⟩,A90,H⟩:=H
     replace H : ((xAdd3.f l0 l1).bind fun bt106=>((freshetref03_Same.f kj4 t102 bt106.1).bind fun t110=>(if t110 = true then (freshetlaw03_ZsetSums.j1 kj4 l0 l1 (t103 != bt106.2)) else (freshetlaw03_ZsetSums.j1 kj4 l0 l1 true)))) = some r:=H
     have A9:=Aside0.mk A90
     clear A90
     replace H:=Option.bind_eq_some_iff.mp H
     obtain ⟨⟨t106,t107⟩,A100,H⟩:=H
     replace H : ((freshetref03_Same.f kj4 t102 t106).bind fun t110=>(if t110 = true then (freshetlaw03_ZsetSums.j1 kj4 l0 l1 (t103 != t107)) else (freshetlaw03_ZsetSums.j1 kj4 l0 l1 true))) = some r:=H
     have A10:=Aside0.mk A100
     clear A100
     have HC11:=Aside0.mk H
     clear H
     go_upto_region 7 with (first | ((with_reducible refine gate_callee (f:=18) rfl ?_);refine goesL_ (some 22) rfl rfl Tryz.func18 (by kernel_rfl) rfl #[.slice A0 l0.length c0,.slice A1 l1.length c1] rfl (by (try simp only [List.map_toArray,List.map_cons,List.map_nil]);first | done | rfl | (simp only [List.length_drop,List.length_take];rfl)) ?_;(with_reducible refine (xAdd.calls _ _ l0 _ _ l1 t102 t103 _ ?side1 ?side2 ?side3 ?side4 A9.out).mono ?_);(case side1=>repeat (first | exact (Kd.C_below HR0.out HB.out) | (with_reducible refine Kd.C_alloc ?_ _) | (with_reducible refine Kd.C_drewN ?_ _) | (with_reducible refine Kd.C_drew ?_)));(case side2=>exact HC0.out);(case side3=>repeat (first | exact (Kd.C_below HR1.out HB.out) | (with_reducible refine Kd.C_alloc ?_ _) | (with_reducible refine Kd.C_drewN ?_ _) | (with_reducible refine Kd.C_drew ?_)));(case side4=>exact HC1.out);rintro e w12 ⟨v104,rfl,ho0,hb⟩;refine ⟨_,rfl, ?_⟩;have n0_:=Aside0.mk (Kd.R_lower ho0 (below_size (by repeat (first | (with_reducible first | exact HB.out | apply below_alloc | apply pw_below_drewN | apply below_drew1) | exact HB.out))));have n1_:=Aside0.mk (below_step (by repeat (first | (with_reducible first | exact HB.out | apply below_alloc | apply pw_below_drewN | apply below_drew1) | exact HB.out)) hb);clear HB;have HO105:=n0_;have HB:=n1_;clear n0_ n1_;(try clear hb);(try clear hb2);(try clear hk);(try clear hi);(try clear ho0)) | ((with_reducible refine gate_callee (f:=19) rfl ?_);refine goesL_ (some 28) rfl rfl Tryz.func19 (by kernel_rfl) rfl #[.slice A0 l0.length c0,.slice A1 l1.length c1] rfl (by (try simp only [List.map_toArray,List.map_cons,List.map_nil]);first | done | rfl | (simp only [List.length_drop,List.length_take];rfl)) ?_;(with_reducible refine (xAdd3.calls _ _ l0 _ _ l1 t106 t107 _ ?side1 ?side2 ?side3 ?side4 A10.out).mono ?_);(case side1=>repeat (first | exact (Kd.C_below HR0.out HB.out) | (with_reducible refine Kd.C_alloc ?_ _) | (with_reducible refine Kd.C_drewN ?_ _) | (with_reducible refine Kd.C_drew ?_)));(case side2=>exact HC0.out);(case side3=>repeat (first | exact (Kd.C_below HR1.out HB.out) | (with_reducible refine Kd.C_alloc ?_ _) | (with_reducible refine Kd.C_drewN ?_ _) | (with_reducible refine Kd.C_drew ?_)));(case side4=>exact HC1.out);rintro e w13 ⟨v108,rfl,ho0,hb⟩;refine ⟨_,rfl, ?_⟩;have n0_:=Aside0.mk (Kd.R_elder' (by (with_reducible repeat (first | apply Kd.R_alloc | apply Kd.R_drewN | apply Kd.R_drew));exact HO105.out) (Kd.R_base ho0) hb);have n1_:=Aside0.mk (Kd.R_lower (Kd.R_new' ho0 (Kd.R_lt (by (with_reducible repeat (first | apply Kd.R_alloc | apply Kd.R_drewN | apply Kd.R_drew));exact HO105.out))) (below_size (by repeat (first | (with_reducible first | exact HB.out | apply below_alloc | apply pw_below_drewN | apply below_drew1) | exact HB.out))));have n2_:=Aside0.mk (below_step (by repeat (first | (with_reducible first | exact HB.out | apply below_alloc | apply pw_below_drewN | apply below_drew1) | exact HB.out)) hb);clear HO105;clear HB;have HO105:=n0_;have HO109:=n1_;have HB:=n2_;clear n0_ n1_ n2_;(try clear hb);(try clear hb2);(try clear hk);(try clear hi);(try clear ho0)))
     (try simp only [Act.put,List.setIfInBounds_toArray,List.set_cons_zero,List.set_cons_succ])
     go_cut [39] (fun v39 wc=>∃ (kq : Nat) (x39_10 : Bool),v39 = .bool x39_10 ∧ Aside0 (freshetlaw03_ZsetSums.j1 kq l0 l1 x39_10 = some r) ∧ Aside0 (kq ≤ kj4) ∧ Aside0 (Below w.heap.size w wc))
     case first =>
      have H:=HC11.out
      clear HC11
      replace H:=Option.bind_eq_some_iff.mp H
      obtain ⟨t110,A140,H⟩:=H
      replace H : (if t110 = true then (freshetlaw03_ZsetSums.j1 kj4 l0 l1 (t103 != t107)) else (freshetlaw03_ZsetSums.j1 kj4 l0 l1 true)) = some r:=H
      have A14:=Aside0.mk A140
      clear A140
      by_cases c15 : t110 = true
      ·subst c15
       have H1 : (freshetlaw03_ZsetSums.j1 kj4 l0 l1 (t103 != t107)) = some r:=by rw [if_pos rfl] at H;exact H
       clear H
       have H:=H1
       clear H1
       have H':=Aside0.mk H
       clear H
       obtain ⟨Ao16,co16,eo16⟩:=Kd.R_slice HO105.out
       subst eo16
       obtain ⟨Ao17,co17,eo17⟩:=Kd.R_slice HO109.out
       subst eo17
       go_wp2_with (first | ((with_reducible refine gate_callee (f:=11) rfl ?_);refine goesL_ (some 33) rfl rfl Tryz.func11 (by kernel_rfl) rfl #[.slice Ao16 t102.length co16,.slice Ao17 t106.length co17] rfl (by (try simp only [List.map_toArray,List.map_cons,List.map_nil]);first | done | rfl | (simp only [List.length_drop,List.length_take];rfl)) ?_;(with_reducible refine (freshetref03_Same.calls kj4 _ _ t102 _ _ t106 true _ ?side1 ?side2 ?side3 ?side4 A14.out).mono ?_);(case side1=>repeat (first | exact (Kd.R_reads' HO105.out).2.2 | (with_reducible refine Kd.C_alloc ?_ _) | (with_reducible refine Kd.C_drewN ?_ _) | (with_reducible refine Kd.C_drew ?_)));(case side2=>exact (Kd.R_reads' HO105.out).2.1);(case side3=>repeat (first | exact (Kd.R_reads' HO109.out).2.2 | (with_reducible refine Kd.C_alloc ?_ _) | (with_reducible refine Kd.C_drewN ?_ _) | (with_reducible refine Kd.C_drew ?_)));(case side4=>exact (Kd.R_reads' HO109.out).2.1);rintro e w' ⟨rfl,⟨nd,rfl⟩⟩;refine ⟨_,rfl, ?_⟩))
       go_meet
       case rel=>exact ⟨_,((t103 != t107)),(by first | rfl | (simp;done) | (simp [*];done)),H',⟨by have:=HJ4.out;first | omega | exact Nat.le_refl _⟩,⟨by repeat (first | (with_reducible first | exact HB.out | apply below_alloc | apply pw_below_drewN | apply below_drew1) | exact HB.out)⟩⟩
      ·replace c15:=Bool.eq_false_iff.mpr c15
       subst c15
       have H1 : (freshetlaw03_ZsetSums.j1 kj4 l0 l1 true) = some r:=by rw [if_neg (show ¬ (false = true) by decide)] at H;exact H
       clear H
       have H:=H1
       clear H1
       have H':=Aside0.mk H
       clear H
       obtain ⟨Ao18,co18,eo18⟩:=Kd.R_slice HO105.out
       subst eo18
       obtain ⟨Ao19,co19,eo19⟩:=Kd.R_slice HO109.out
       subst eo19
       go_wp2_with (first | ((with_reducible refine gate_callee (f:=11) rfl ?_);refine goesL_ (some 33) rfl rfl Tryz.func11 (by kernel_rfl) rfl #[.slice Ao18 t102.length co18,.slice Ao19 t106.length co19] rfl (by (try simp only [List.map_toArray,List.map_cons,List.map_nil]);first | done | rfl | (simp only [List.length_drop,List.length_take];rfl)) ?_;(with_reducible refine (freshetref03_Same.calls kj4 _ _ t102 _ _ t106 false _ ?side1 ?side2 ?side3 ?side4 A14.out).mono ?_);(case side1=>repeat (first | exact (Kd.R_reads' HO105.out).2.2 | (with_reducible refine Kd.C_alloc ?_ _) | (with_reducible refine Kd.C_drewN ?_ _) | (with_reducible refine Kd.C_drew ?_)));(case side2=>exact (Kd.R_reads' HO105.out).2.1);(case side3=>repeat (first | exact (Kd.R_reads' HO109.out).2.2 | (with_reducible refine Kd.C_alloc ?_ _) | (with_reducible refine Kd.C_drewN ?_ _) | (with_reducible refine Kd.C_drew ?_)));(case side4=>exact (Kd.R_reads' HO109.out).2.1);rintro e w' ⟨rfl,⟨nd,rfl⟩⟩;refine ⟨_,rfl, ?_⟩))
       go_meet
       case rel=>exact ⟨_,(true),(by first | rfl | (simp;done) | (simp [*];done)),H',⟨by have:=HJ4.out;first | omega | exact Nat.le_refl _⟩,⟨by repeat (first | (with_reducible first | exact HB.out | apply below_alloc | apply pw_below_drewN | apply below_drew1) | exact HB.out)⟩⟩
     case rest =>
      clear HC11
      try clear c1
      try clear p2
      try clear c4
      try clear c6
      try clear c7
      try clear c7b0
      try clear c7b1
      try clear c8
      try clear c11
      try clear c15
      try clear c18
      try clear c19
      try clear p2
      obtain ⟨kq,x39_10,rfl,HA,HJ10,HB⟩:=hcut
      cases kq with
      | zero=>exact absurd HA.out (by simp [freshetlaw03_ZsetSums.j1])
      | succ kj10 =>
       have H:=HA.out
       clear HA
       simp only [freshetlaw03_ZsetSums.j1] at H
       by_cases c20 : x39_10 = true
       ·subst c20
        have H1 : (some false) = some r:=by rw [if_pos rfl] at H;exact H
        clear H
        have H:=H1
        clear H1
        obtain rfl:=Option.some.inj H
        go_wp2
        go_ret
        exact ⟨by first | rfl | (simp [errW_none,errW_some] <;> rfl) | (simp [*,errW_none,errW_some] <;> rfl),by repeat (first | (with_reducible first | exact HB.out | apply below_alloc | apply pw_below_drewN | apply below_drew1) | exact HB.out)⟩
       ·replace c20:=Bool.eq_false_iff.mpr c20
        subst c20
        have H1 : ((zset_Sub.f kj10 l0 l1).bind fun bt111=>((xSub3.f l0 l1).bind fun bt115=>((freshetref03_Same.f kj10 bt111.1 bt115.1).bind fun t119=>(if t119 = true then (freshetlaw03_ZsetSums.j2 kj10 l0 (bt111.2 != bt115.2)) else (freshetlaw03_ZsetSums.j2 kj10 l0 true))))) = some r:=by rw [if_neg (show ¬ (false = true) by decide)] at H;exact H
        clear H
        have H:=H1
        clear H1
        replace H:=Option.bind_eq_some_iff.mp H
        obtain ⟨⟨t111,t112⟩,A210,H⟩:=H
        replace H : ((xSub3.f l0 l1).bind fun bt115=>((freshetref03_Same.f kj10 t111 bt115.1).bind fun t119=>(if t119 = true then (freshetlaw03_ZsetSums.j2 kj10 l0 (t112 != bt115.2)) else (freshetlaw03_ZsetSums.j2 kj10 l0 true)))) = some r:=H
        have A21:=Aside0.mk A210
        clear A210
        replace H:=Option.bind_eq_some_iff.mp H
        obtain ⟨⟨t115,t116⟩,A220,H⟩:=H
        replace H : ((freshetref03_Same.f kj10 t111 t115).bind fun t119=>(if t119 = true then (freshetlaw03_ZsetSums.j2 kj10 l0 (t112 != t116)) else (freshetlaw03_ZsetSums.j2 kj10 l0 true))) = some r:=H
        have A22:=Aside0.mk A220
        clear A220
        have HC23:=Aside0.mk H
        clear H
        go_upto_region 11 with (first | ((with_reducible refine gate_callee (f:=20) rfl ?_);refine goesL_ (some 43) rfl rfl Tryz.func20 (by kernel_rfl) rfl #[.slice A0 l0.length c0,.slice A1 l1.length c1] rfl (by (try simp only [List.map_toArray,List.map_cons,List.map_nil]);first | done | rfl | (simp only [List.length_drop,List.length_take];rfl)) ?_;(with_reducible refine (zset_Sub.calls kj10 _ _ l0 _ _ l1 t111 t112 _ ?side1 ?side2 ?side3 ?side4 A21.out).mono ?_);(case side1=>repeat (first | exact (Kd.C_below HR0.out HB.out) | (with_reducible refine Kd.C_alloc ?_ _) | (with_reducible refine Kd.C_drewN ?_ _) | (with_reducible refine Kd.C_drew ?_)));(case side2=>exact HC0.out);(case side3=>repeat (first | exact (Kd.C_below HR1.out HB.out) | (with_reducible refine Kd.C_alloc ?_ _) | (with_reducible refine Kd.C_drewN ?_ _) | (with_reducible refine Kd.C_drew ?_)));(case side4=>exact HC1.out);rintro e w24 ⟨v113,rfl,ho0,hb⟩;refine ⟨_,rfl, ?_⟩;have n0_:=Aside0.mk (Kd.R_lower ho0 (below_size (by repeat (first | (with_reducible first | exact HB.out | apply below_alloc | apply pw_below_drewN | apply below_drew1) | exact HB.out))));have n1_:=Aside0.mk (below_step (by repeat (first | (with_reducible first | exact HB.out | apply below_alloc | apply pw_below_drewN | apply below_drew1) | exact HB.out)) hb);clear HB;have HO114:=n0_;have HB:=n1_;clear n0_ n1_;(try clear hb);(try clear hb2);(try clear hk);(try clear hi);(try clear ho0)) | ((with_reducible refine gate_callee (f:=21) rfl ?_);refine goesL_ (some 49) rfl rfl Tryz.func21 (by kernel_rfl) rfl #[.slice A0 l0.length c0,.slice A1 l1.length c1] rfl (by (try simp only [List.map_toArray,List.map_cons,List.map_nil]);first | done | rfl | (simp only [List.length_drop,List.length_take];rfl)) ?_;(with_reducible refine (xSub3.calls _ _ l0 _ _ l1 t115 t116 _ ?side1 ?side2 ?side3 ?side4 A22.out).mono ?_);(case side1=>repeat (first | exact (Kd.C_below HR0.out HB.out) | (with_reducible refine Kd.C_alloc ?_ _) | (with_reducible refine Kd.C_drewN ?_ _) | (with_reducible refine Kd.C_drew ?_)));(case side2=>exact HC0.out);(case side3=>repeat (first | exact (Kd.C_below HR1.out HB.out) | (with_reducible refine Kd.C_alloc ?_ _) | (with_reducible refine Kd.C_drewN ?_ _) | (with_reducible refine Kd.C_drew ?_)));(case side4=>exact HC1.out);rintro e w25 ⟨v117,rfl,ho0,hb⟩;refine ⟨_,rfl, ?_⟩;have n0_:=Aside0.mk (Kd.R_elder' (by (with_reducible repeat (first | apply Kd.R_alloc | apply Kd.R_drewN | apply Kd.R_drew));exact HO114.out) (Kd.R_base ho0) hb);have n1_:=Aside0.mk (Kd.R_lower (Kd.R_new' ho0 (Kd.R_lt (by (with_reducible repeat (first | apply Kd.R_alloc | apply Kd.R_drewN | apply Kd.R_drew));exact HO114.out))) (below_size (by repeat (first | (with_reducible first | exact HB.out | apply below_alloc | apply pw_below_drewN | apply below_drew1) | exact HB.out))));have n2_:=Aside0.mk (below_step (by repeat (first | (with_reducible first | exact HB.out | apply below_alloc | apply pw_below_drewN | apply below_drew1) | exact HB.out)) hb);clear HO114;clear HB;have HO114:=n0_;have HO118:=n1_;have HB:=n2_;clear n0_ n1_ n2_;(try clear hb);(try clear hb2);(try clear hk);(try clear hi);(try clear ho0)))
        (try simp only [Act.put,List.setIfInBounds_toArray,List.set_cons_zero,List.set_cons_succ])
        go_cut [60] (fun v60 wc=>∃ (kq : Nat) (x60_22 : Bool),v60 = .bool x60_22 ∧ Aside0 (freshetlaw03_ZsetSums.j2 kq l0 x60_22 = some r) ∧ Aside0 (kq ≤ kj10) ∧ Aside0 (Below w.heap.size w wc))
        case first =>
         have H:=HC23.out
         clear HC23
         replace H:=Option.bind_eq_some_iff.mp H
         obtain ⟨t119,A260,H⟩:=H
         replace H : (if t119 = true then (freshetlaw03_ZsetSums.j2 kj10 l0 (t112 != t116)) else (freshetlaw03_ZsetSums.j2 kj10 l0 true)) = some r:=H
         have A26:=Aside0.mk A260
         clear A260
         by_cases c27 : t119 = true
         ·subst c27
          have H1 : (freshetlaw03_ZsetSums.j2 kj10 l0 (t112 != t116)) = some r:=by rw [if_pos rfl] at H;exact H
          clear H
          have H:=H1
          clear H1
          have H':=Aside0.mk H
          clear H
          obtain ⟨Ao28,co28,eo28⟩:=Kd.R_slice HO114.out
          subst eo28
          obtain ⟨Ao29,co29,eo29⟩:=Kd.R_slice HO118.out
          subst eo29
          go_wp2_with (first | ((with_reducible refine gate_callee (f:=11) rfl ?_);refine goesL_ (some 54) rfl rfl Tryz.func11 (by kernel_rfl) rfl #[.slice Ao28 t111.length co28,.slice Ao29 t115.length co29] rfl (by (try simp only [List.map_toArray,List.map_cons,List.map_nil]);first | done | rfl | (simp only [List.length_drop,List.length_take];rfl)) ?_;(with_reducible refine (freshetref03_Same.calls kj10 _ _ t111 _ _ t115 true _ ?side1 ?side2 ?side3 ?side4 A26.out).mono ?_);(case side1=>repeat (first | exact (Kd.R_reads' HO114.out).2.2 | (with_reducible refine Kd.C_alloc ?_ _) | (with_reducible refine Kd.C_drewN ?_ _) | (with_reducible refine Kd.C_drew ?_)));(case side2=>exact (Kd.R_reads' HO114.out).2.1);(case side3=>repeat (first | exact (Kd.R_reads' HO118.out).2.2 | (with_reducible refine Kd.C_alloc ?_ _) | (with_reducible refine Kd.C_drewN ?_ _) | (with_reducible refine Kd.C_drew ?_)));(case side4=>exact (Kd.R_reads' HO118.out).2.1);rintro e w' ⟨rfl,⟨nd,rfl⟩⟩;refine ⟨_,rfl, ?_⟩))
          go_meet
          case rel=>exact ⟨_,((t112 != t116)),(by first | rfl | (simp;done) | (simp [*];done)),H',⟨by have:=HJ4.out;have:=HJ10.out;first | omega | exact Nat.le_refl _⟩,⟨by repeat (first | (with_reducible first | exact HB.out | apply below_alloc | apply pw_below_drewN | apply below_drew1) | exact HB.out)⟩⟩
         ·replace c27:=Bool.eq_false_iff.mpr c27
          subst c27
          have H1 : (freshetlaw03_ZsetSums.j2 kj10 l0 true) = some r:=by rw [if_neg (show ¬ (false = true) by decide)] at H;exact H
          clear H
          have H:=H1
          clear H1
          have H':=Aside0.mk H
          clear H
          obtain ⟨Ao30,co30,eo30⟩:=Kd.R_slice HO114.out
          subst eo30
          obtain ⟨Ao31,co31,eo31⟩:=Kd.R_slice HO118.out
          subst eo31
          go_wp2_with (first | ((with_reducible refine gate_callee (f:=11) rfl ?_);refine goesL_ (some 54) rfl rfl Tryz.func11 (by kernel_rfl) rfl #[.slice Ao30 t111.length co30,.slice Ao31 t115.length co31] rfl (by (try simp only [List.map_toArray,List.map_cons,List.map_nil]);first | done | rfl | (simp only [List.length_drop,List.length_take];rfl)) ?_;(with_reducible refine (freshetref03_Same.calls kj10 _ _ t111 _ _ t115 false _ ?side1 ?side2 ?side3 ?side4 A26.out).mono ?_);(case side1=>repeat (first | exact (Kd.R_reads' HO114.out).2.2 | (with_reducible refine Kd.C_alloc ?_ _) | (with_reducible refine Kd.C_drewN ?_ _) | (with_reducible refine Kd.C_drew ?_)));(case side2=>exact (Kd.R_reads' HO114.out).2.1);(case side3=>repeat (first | exact (Kd.R_reads' HO118.out).2.2 | (with_reducible refine Kd.C_alloc ?_ _) | (with_reducible refine Kd.C_drewN ?_ _) | (with_reducible refine Kd.C_drew ?_)));(case side4=>exact (Kd.R_reads' HO118.out).2.1);rintro e w' ⟨rfl,⟨nd,rfl⟩⟩;refine ⟨_,rfl, ?_⟩))
          go_meet
          case rel=>exact ⟨_,(true),(by first | rfl | (simp;done) | (simp [*];done)),H',⟨by have:=HJ4.out;have:=HJ10.out;first | omega | exact Nat.le_refl _⟩,⟨by repeat (first | (with_reducible first | exact HB.out | apply below_alloc | apply pw_below_drewN | apply below_drew1) | exact HB.out)⟩⟩
        case rest =>
         clear HC23
         try clear c1
         try clear c2
         try clear p2
         try clear c4
         try clear c6
         try clear c7
         try clear c7b0
         try clear c7b1
         try clear c8
         try clear c11
         try clear c15
         try clear c18
         try clear c19
         try clear c20
         try clear c21
         try clear c27
         try clear p2
         obtain ⟨kq,x60_22,rfl,HA,HJ22,HB⟩:=hcut
         cases kq with
         | zero=>exact absurd HA.out (by simp [freshetlaw03_ZsetSums.j2])
         | succ kj22 =>
          have H:=HA.out
          clear HA
          simp only [freshetlaw03_ZsetSums.j2] at H
          by_cases c32 : x60_22 = true
          ·subst c32
           have H1 : (some false) = some r:=by rw [if_pos rfl] at H;exact H
           clear H
           have H:=H1
           clear H1
           obtain rfl:=Option.some.inj H
           go_wp2
           go_ret
           exact ⟨by first | rfl | (simp [errW_none,errW_some] <;> rfl) | (simp [*,errW_none,errW_some] <;> rfl),by repeat (first | (with_reducible first | exact HB.out | apply below_alloc | apply pw_below_drewN | apply below_drew1) | exact HB.out)⟩
          ·replace c32:=Bool.eq_false_iff.mpr c32
           subst c32
           have H1 : ((zset_Neg.f kj22 l0).bind fun bt120=>((freshetref03_Neg.f kj22 l0).bind fun bt124=>((freshetref03_Same.f kj22 bt120.1 bt124.1).bind fun t128=>(if t128 = true then (some (bt120.2 == bt124.2)) else (some false))))) = some r:=by rw [if_neg (show ¬ (false = true) by decide)] at H;exact H
           clear H
           have H:=H1
           clear H1
           replace H:=Option.bind_eq_some_iff.mp H
           obtain ⟨⟨t120,t121⟩,A330,H⟩:=H
           replace H : ((freshetref03_Neg.f kj22 l0).bind fun bt124=>((freshetref03_Same.f kj22 t120 bt124.1).bind fun t128=>(if t128 = true then (some (t121 == bt124.2)) else (some false)))) = some r:=H
           have A33:=Aside0.mk A330
           clear A330
           replace H:=Option.bind_eq_some_iff.mp H
           obtain ⟨⟨t124,t125⟩,A340,H⟩:=H
           replace H : ((freshetref03_Same.f kj22 t120 t124).bind fun t128=>(if t128 = true then (some (t121 == t125)) else (some false))) = some r:=H
           have A34:=Aside0.mk A340
           clear A340
           replace H:=Option.bind_eq_some_iff.mp H
           obtain ⟨t128,A350,H⟩:=H
           replace H : (if t128 = true then (some (t121 == t125)) else (some false)) = some r:=H
           have A35:=Aside0.mk A350
           clear A350
           by_cases c36 : t128 = true
           ·subst c36
            have H1 : (some (t121 == t125)) = some r:=by rw [if_pos rfl] at H;exact H
            clear H
            have H:=H1
            clear H1
            obtain rfl:=Option.some.inj H
            go_wp2_with (first | ((with_reducible refine gate_callee (f:=22) rfl ?_);refine goesL_ (some 63) rfl rfl Tryz.func22 (by kernel_rfl) rfl #[.slice A0 l0.length c0] rfl (by (try simp only [List.map_toArray,List.map_cons,List.map_nil]);first | done | rfl | (simp only [List.length_drop,List.length_take];rfl)) ?_;(with_reducible refine (zset_Neg.calls kj22 _ _ l0 t120 t121 _ ?side1 ?side2 A33.out).mono ?_);(case side1=>repeat (first | exact (Kd.C_below HR0.out HB.out) | (with_reducible refine Kd.C_alloc ?_ _) | (with_reducible refine Kd.C_drewN ?_ _) | (with_reducible refine Kd.C_drew ?_)));(case side2=>exact HC0.out);rintro e w37 ⟨v122,rfl,ho0,hb⟩;refine ⟨_,rfl, ?_⟩;have n0_:=Aside0.mk (Kd.R_lower ho0 (below_size (by repeat (first | (with_reducible first | exact HB.out | apply below_alloc | apply pw_below_drewN | apply below_drew1) | exact HB.out))));have n1_:=Aside0.mk (below_step (by repeat (first | (with_reducible first | exact HB.out | apply below_alloc | apply pw_below_drewN | apply below_drew1) | exact HB.out)) hb);clear HB;have HO123:=n0_;have HB:=n1_;clear n0_ n1_;(try clear hb);(try clear hb2);(try clear hk);(try clear hi);(try clear ho0)) | ((with_reducible refine gate_callee (f:=23) rfl ?_);refine goesL_ (some 68) rfl rfl Tryz.func23 (by kernel_rfl) rfl #[.slice A0 l0.length c0] rfl (by (try simp only [List.map_toArray,List.map_cons,List.map_nil]);first | done | rfl | (simp only [List.length_drop,List.length_take];rfl)) ?_;(with_reducible refine (freshetref03_Neg.calls kj22 _ _ l0 t124 t125 _ ?side1 ?side2 A34.out).mono ?_);(case side1=>repeat (first | exact (Kd.C_below HR0.out HB.out) | (with_reducible refine Kd.C_alloc ?_ _) | (with_reducible refine Kd.C_drewN ?_ _) | (with_reducible refine Kd.C_drew ?_)));(case side2=>exact HC0.out);rintro e w38 ⟨v126,rfl,ho0,hb⟩;refine ⟨_,rfl, ?_⟩;have n0_:=Aside0.mk (Kd.R_elder' (by (with_reducible repeat (first | apply Kd.R_alloc | apply Kd.R_drewN | apply Kd.R_drew));exact HO123.out) (Kd.R_base ho0) hb);have n1_:=Aside0.mk (Kd.R_lower (Kd.R_new' ho0 (Kd.R_lt (by (with_reducible repeat (first | apply Kd.R_alloc | apply Kd.R_drewN | apply Kd.R_drew));exact HO123.out))) (below_size (by repeat (first | (with_reducible first | exact HB.out | apply below_alloc | apply pw_below_drewN | apply below_drew1) | exact HB.out))));have n2_:=Aside0.mk (below_step (by repeat (first | (with_reducible first | exact HB.out | apply below_alloc | apply pw_below_drewN | apply below_drew1) | exact HB.out)) hb);clear HO123;clear HB;have HO123:=n0_;have HO127:=n1_;have HB:=n2_;clear n0_ n1_ n2_;(try clear hb);(try clear hb2);(try clear hk);(try clear hi);(try clear ho0);obtain ⟨Ao39,co39,eo39⟩:=Kd.R_slice HO123.out;subst eo39;obtain ⟨Ao40,co40,eo40⟩:=Kd.R_slice HO127.out;subst eo40) | ((with_reducible refine gate_callee (f:=11) rfl ?_);refine goesL_ (some 73) rfl rfl Tryz.func11 (by kernel_rfl) rfl #[.slice Ao39 t120.length co39,.slice Ao40 t124.length co40] rfl (by (try simp only [List.map_toArray,List.map_cons,List.map_nil]);first | done | rfl | (simp only [List.length_drop,List.length_take];rfl)) ?_;(with_reducible refine (freshetref03_Same.calls kj22 _ _ t120 _ _ t124 true _ ?side1 ?side2 ?side3 ?side4 A35.out).mono ?_);(case side1=>repeat (first | exact (Kd.R_reads' HO123.out).2.2 | (with_reducible refine Kd.C_alloc ?_ _) | (with_reducible refine Kd.C_drewN ?_ _) | (with_reducible refine Kd.C_drew ?_)));(case side2=>exact (Kd.R_reads' HO123.out).2.1);(case side3=>repeat (first | exact (Kd.R_reads' HO127.out).2.2 | (with_reducible refine Kd.C_alloc ?_ _) | (with_reducible refine Kd.C_drewN ?_ _) | (with_reducible refine Kd.C_drew ?_)));(case side4=>exact (Kd.R_reads' HO127.out).2.1);rintro e w' ⟨rfl,⟨nd,rfl⟩⟩;refine ⟨_,rfl, ?_⟩))
            go_ret
            exact ⟨by first | rfl | (simp [errW_none,errW_some] <;> rfl) | (simp [*,errW_none,errW_some] <;> rfl),by repeat (first | (with_reducible first | exact HB.out | apply below_alloc | apply pw_below_drewN | apply below_drew1) | exact HB.out)⟩
           ·replace c36:=Bool.eq_false_iff.mpr c36
            subst c36
            have H1 : (some false) = some r:=by rw [if_neg (show ¬ (false = true) by decide)] at H;exact H
            clear H
            have H:=H1
            clear H1
            obtain rfl:=Option.some.inj H
            go_wp2_with (first | ((with_reducible refine gate_callee (f:=22) rfl ?_);refine goesL_ (some 63) rfl rfl Tryz.func22 (by kernel_rfl) rfl #[.slice A0 l0.length c0] rfl (by (try simp only [List.map_toArray,List.map_cons,List.map_nil]);first | done | rfl | (simp only [List.length_drop,List.length_take];rfl)) ?_;(with_reducible refine (zset_Neg.calls kj22 _ _ l0 t120 t121 _ ?side1 ?side2 A33.out).mono ?_);(case side1=>repeat (first | exact (Kd.C_below HR0.out HB.out) | (with_reducible refine Kd.C_alloc ?_ _) | (with_reducible refine Kd.C_drewN ?_ _) | (with_reducible refine Kd.C_drew ?_)));(case side2=>exact HC0.out);rintro e w41 ⟨v122,rfl,ho0,hb⟩;refine ⟨_,rfl, ?_⟩;have n0_:=Aside0.mk (Kd.R_lower ho0 (below_size (by repeat (first | (with_reducible first | exact HB.out | apply below_alloc | apply pw_below_drewN | apply below_drew1) | exact HB.out))));have n1_:=Aside0.mk (below_step (by repeat (first | (with_reducible first | exact HB.out | apply below_alloc | apply pw_below_drewN | apply below_drew1) | exact HB.out)) hb);clear HB;have HO123:=n0_;have HB:=n1_;clear n0_ n1_;(try clear hb);(try clear hb2);(try clear hk);(try clear hi);(try clear ho0)) | ((with_reducible refine gate_callee (f:=23) rfl ?_);refine goesL_ (some 68) rfl rfl Tryz.func23 (by kernel_rfl) rfl #[.slice A0 l0.length c0] rfl (by (try simp only [List.map_toArray,List.map_cons,List.map_nil]);first | done | rfl | (simp only [List.length_drop,List.length_take];rfl)) ?_;(with_reducible refine (freshetref03_Neg.calls kj22 _ _ l0 t124 t125 _ ?side1 ?side2 A34.out).mono ?_);(case side1=>repeat (first | exact (Kd.C_below HR0.out HB.out) | (with_reducible refine Kd.C_alloc ?_ _) | (with_reducible refine Kd.C_drewN ?_ _) | (with_reducible refine Kd.C_drew ?_)));(case side2=>exact HC0.out);rintro e w42 ⟨v126,rfl,ho0,hb⟩;refine ⟨_,rfl, ?_⟩;have n0_:=Aside0.mk (Kd.R_elder' (by (with_reducible repeat (first | apply Kd.R_alloc | apply Kd.R_drewN | apply Kd.R_drew));exact HO123.out) (Kd.R_base ho0) hb);have n1_:=Aside0.mk (Kd.R_lower (Kd.R_new' ho0 (Kd.R_lt (by (with_reducible repeat (first | apply Kd.R_alloc | apply Kd.R_drewN | apply Kd.R_drew));exact HO123.out))) (below_size (by repeat (first | (with_reducible first | exact HB.out | apply below_alloc | apply pw_below_drewN | apply below_drew1) | exact HB.out))));have n2_:=Aside0.mk (below_step (by repeat (first | (with_reducible first | exact HB.out | apply below_alloc | apply pw_below_drewN | apply below_drew1) | exact HB.out)) hb);clear HO123;clear HB;have HO123:=n0_;have HO127:=n1_;have HB:=n2_;clear n0_ n1_ n2_;(try clear hb);(try clear hb2);(try clear hk);(try clear hi);(try clear ho0);obtain ⟨Ao43,co43,eo43⟩:=Kd.R_slice HO123.out;subst eo43;obtain ⟨Ao44,co44,eo44⟩:=Kd.R_slice HO127.out;subst eo44) | ((with_reducible refine gate_callee (f:=11) rfl ?_);refine goesL_ (some 73) rfl rfl Tryz.func11 (by kernel_rfl) rfl #[.slice Ao43 t120.length co43,.slice Ao44 t124.length co44] rfl (by (try simp only [List.map_toArray,List.map_cons,List.map_nil]);first | done | rfl | (simp only [List.length_drop,List.length_take];rfl)) ?_;(with_reducible refine (freshetref03_Same.calls kj22 _ _ t120 _ _ t124 false _ ?side1 ?side2 ?side3 ?side4 A35.out).mono ?_);(case side1=>repeat (first | exact (Kd.R_reads' HO123.out).2.2 | (with_reducible refine Kd.C_alloc ?_ _) | (with_reducible refine Kd.C_drewN ?_ _) | (with_reducible refine Kd.C_drew ?_)));(case side2=>exact (Kd.R_reads' HO123.out).2.1);(case side3=>repeat (first | exact (Kd.R_reads' HO127.out).2.2 | (with_reducible refine Kd.C_alloc ?_ _) | (with_reducible refine Kd.C_drewN ?_ _) | (with_reducible refine Kd.C_drew ?_)));(case side4=>exact (Kd.R_reads' HO127.out).2.1);rintro e w' ⟨rfl,⟨nd,rfl⟩⟩;refine ⟨_,rfl, ?_⟩))
            go_ret
            exact ⟨by first | rfl | (simp [errW_none,errW_some] <;> rfl) | (simp [*,errW_none,errW_some] <;> rfl),by repeat (first | (with_reducible first | exact HB.out | apply below_alloc | apply pw_below_drewN | apply below_drew1) | exact HB.out)⟩
 ·replace c4:=Bool.eq_false_iff.mpr c4
  subst c4
  have H1 : (some false) = some r:=by rw [if_neg (show ¬ (false = true) by decide)] at H;exact H
  clear H
  have H:=H1
  clear H1
  obtain rfl:=Option.some.inj H
  go_enter Tryz.func4,Tryz.ntmps4
  go_wp2_with (first | ((with_reducible refine gate_callee (f:=6) rfl ?_);refine goesL_ (some 9) rfl rfl Tryz.func6 (by kernel_rfl) rfl #[] rfl (by (try simp only [List.map_toArray,List.map_cons,List.map_nil]);first | done | rfl | (simp only [List.length_drop,List.length_take];rfl)) ?_;(with_reducible refine (xAwake3.calls  false _ ?side1 A3.out).mono ?_);(case side1=>first | exact HT.out | exact tab_at HT.out (by repeat (first | (with_reducible first | exact HB.out | apply below_alloc | apply pw_below_drewN | apply below_drew1) | exact HB.out)) | (repeat (first | exact HT.out | refine tab_drewN ?_ | refine tab_drew ?_)));rintro e w45 ⟨rfl,hb⟩;refine ⟨_,rfl, ?_⟩;have n0_:=Aside0.mk (below_step (by repeat (first | (with_reducible first | exact HB.out | apply below_alloc | apply pw_below_drewN | apply below_drew1) | exact HB.out)) hb);clear HB;have HB:=n0_;clear n0_;(try clear hb);(try clear hb2);(try clear hk);(try clear hi)))
  go_ret
  exact ⟨by first | rfl | (simp [errW_none,errW_some] <;> rfl) | (simp [*,errW_none,errW_some] <;> rfl),by repeat (first | (with_reducible first | exact HB.out | apply below_alloc | apply pw_below_drewN | apply below_drew1) | exact HB.out)⟩
end Go.Proofs.YthpkjkcfhipjhaaGreatDoor.PZLS
end
