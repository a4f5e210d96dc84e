/- a part of the claim: what the card leans on, out of the texts PRGx1, PRTx2, PRTx3, PRWx2, PRWx3 (put together by wip/tools/shake.py). -/
import Derived.Test.YtakcjiinchghaaaGreatDoorQE1
import Derived.Test.YtakcjiinchghaaaGreatDoorQE5
import Derived.Test.YtakcjiinchghaaaGreatDoorQE6
import Derived.Test.YtakcjiinchghaaaGreatDoorProg
import Derived.Below
import Derived.Deep.Draws
import Derived.Deep.AppendLies
import Derived.Maps.AppendAt
import Derived.OwnWalk
import Derived.Laws.BytesArg
import Derived.Laws.MakeOwn
import Derived.Laws.OwnMore
import Derived.Deep.OwnRows
import Derived.Tactics
import Derived.Lib.ConvBytes
import Derived.Laws.Slices
import Derived.WalkKit
import Derived.KernelRfl
import Derived.RowKit3
import Derived.Deep.LoopGhost
import Derived.Deep.QuietTactic
import Derived.BigQuiet
import Derived.WideLaws
import Derived.Deep.DeepCutAuto
import Derived.Deep.CutBlock
import Derived.Deep.RegionHeld3
import Derived.Laws.Rows
import Derived.Lib.AppendStr
import Derived.ArgAppend
import Derived.Laws.IdiomCopy
import Derived.OrdersHeld
import Derived.Laws.BitsLemmas
import Derived.RowKit
section
namespace Go.Proofs.YtakcjiinchghaaaGreatDoor.PRG
open Go.RowKit Go.Proofs.YtakcjiinchghaaaGreatDoorW.PrintWords Go.Proofs.YtakcjiinchghaaaGreatDoorW.PrintLast Go.Proofs.YtakcjiinchghaaaGreatDoor.PRW
set_option linter.unusedVariables false
set_option linter.unusedSimpArgs false
def freshetref02_Sound.l0 : Nat → List (S29) → Int → Option (Bool)
 | 0,_,_=>none
 | k + 1,x0,x3=>if x3 < (x0.length : Int) then (if x3 ≥ 1024 then (some false) else (if 0 ≤ x3 then ((xrSound.f ((rd_T29 x0 x3).f0) ((rd_T29 x0 x3).f1) ((rd_T29 x0 x3).f2) ((rd_T29 x0 x3).f3)).bind fun t102=>(if t102 = true then (freshetref02_Sound.l0 k x0 (wrap64 (x3 + 1))) else (some false))) else (none))) else (some true)
def freshetref02_Sound.f (k : Nat) (l0 : List (S29)) : Option (Bool):=freshetref02_Sound.l0 k l0 0
theorem freshetref02_Sound.mono_l : ∀ k,(∀ y0 y1,LeO (freshetref02_Sound.l0 k y0 y1) (freshetref02_Sound.l0 (k + 1) y0 y1))
 | 0=>fun _ _ r h=>by simp [freshetref02_Sound.l0] at h
 | k + 1=>by
  have ih0:=freshetref02_Sound.mono_l k
  ·intro y0 y1
   unfold freshetref02_Sound.l0
   repeat' first
   | (with_reducible exact ih0 _ _)
   | (with_reducible exact LeO.refl _)
   | (with_reducible exact LeO.none _)
   | (with_reducible refine LeO.ite ?_ ?_)
   | (with_reducible refine LeO.bind ?_ (fun _=>?_))
   | exact ih0 _ _
   | exact LeO.none _
   | refine LeO.ite ?_ ?_
   | refine LeO.bind ?_ (fun _=>?_)
theorem freshetref02_Sound.mono : ∀ a0 k,LeO (freshetref02_Sound.f k a0) (freshetref02_Sound.f (k + 1) a0):=by
 intro a0 k
 have ih0:=freshetref02_Sound.mono_l k
 unfold freshetref02_Sound.f
 repeat' first
   | (with_reducible exact ih0 _ _)
   | (with_reducible exact LeO.refl _)
   | (with_reducible exact LeO.none _)
   | (with_reducible refine LeO.ite ?_ ?_)
   | (with_reducible refine LeO.bind ?_ (fun _=>?_))
   | exact ih0 _ _
   | exact LeO.none _
   | refine LeO.ite ?_ ?_
   | refine LeO.bind ?_ (fun _=>?_)
set_option maxHeartbeats 8000000 in
set_option maxRecDepth 100000 in
theorem freshetref02_Sound.calls (k : Nat) (A0 : Option Addr) (c0 : Nat) (l0 : List (S29)) (r : Bool) (w : World) (hr0 : Kd.C k29 w A0 l0.length l0) (hc0 : l0.length ≤ c0) (h : freshetref02_Sound.f k l0 = some r) :
  Calls Tryz.prog 38 #[.slice A0 l0.length c0] w fun e w'=>e = .returned (.bool r) ∧ Below w.heap.size w w':=by
 have hu29:=Tryz.underlying29
 have HR0:=Aside0.mk hr0
 have HC0:=Aside0.mk hc0
 clear hr0 hc0
 have HB:=Aside0.mk (Below.refl w.heap.size w)
 have H : (freshetref02_Sound.l0 k l0 0) = some r:=h
 clear h
 have H':=Aside0.mk H
 clear H
 go_enter Tryz.func38,Tryz.ntmps38
 go_wp2
 go_loopg [3] k (fun kq v3 w'=>∃ (x3_1 : Int),v3 = .int .i64 x3_1 ∧ Aside0 (freshetref02_Sound.l0 kq l0 x3_1 = some r) ∧ Aside0 (kq ≤ k) ∧ Aside0 (Below w.heap.size w w'))
 case atStart=>exact ⟨(0),(by first | rfl | (simp;done) | (simp [*];done)),H',⟨Nat.le_refl _⟩,⟨by repeat (first | (with_reducible first | exact HB.out | apply below_alloc | apply pw_below_drewN | apply below_drew1) | exact HB.out)⟩⟩
 case round =>
  clear H'
  obtain ⟨x3_1,rfl,HA,HK1,HB⟩:=hrel
  cases gk with
  | zero=>exact absurd HA.out (by simp [freshetref02_Sound.l0])
  | succ k1 =>
   have H:=HA.out
   clear HA
   simp only [freshetref02_Sound.l0] at H
   by_cases c2 : x3_1 < (l0.length : Int)
   ·rw [if_pos c2] at H
    have c2b0 : decide (x3_1 < (l0.length : Int)) = true:=decide_eq_true c2
    clear c2
    by_cases c3 : x3_1 ≥ 1024
    ·rw [if_pos c3] at H
     have c3b0 : decide (1024 ≤ x3_1) = true:=decide_eq_true c3
     clear c3
     obtain rfl:=Option.some.inj H
     go_wp2
     go_ret
     exact ⟨by first | rfl | (simp [errW_none,errW_some] <;> rfl) | (simp [*,errW_none,errW_some] <;> rfl),by repeat (first | (with_reducible first | exact HB.out | apply below_alloc | apply pw_below_drewN | apply below_drew1) | exact HB.out)⟩
    ·rw [if_neg c3] at H
     have c3b0 : decide (1024 ≤ x3_1) = false:=decide_eq_false c3
     clear c3
     by_cases c4 : 0 ≤ x3_1
     ·rw [if_pos c4] at H
      have c4b0 : decide (0 ≤ x3_1) = true:=decide_eq_true c4
      clear c4
      replace H:=Option.bind_eq_some_iff.mp H
      obtain ⟨t102,A50,H⟩:=H
      replace H : (if t102 = true then (freshetref02_Sound.l0 k1 l0 (wrap64 (x3_1 + 1))) else (some false)) = some r:=H
      have A5:=Aside0.mk A50
      clear A50
      by_cases c6 : t102 = true
      ·subst c6
       have H1 : (freshetref02_Sound.l0 k1 l0 (wrap64 (x3_1 + 1))) = some r:=by rw [if_pos rfl] at H;exact H
       clear H
       have H:=H1
       clear H1
       have H':=Aside0.mk H
       clear H
       have p101 : 0 ≤ (x3_1 : Int):=of_decide_eq_true (by first | (with_reducible assumption) | assumption)
       have q101 : x3_1 < (l0.length : Int):=of_decide_eq_true (by first | (with_reducible assumption) | assumption)
       obtain ⟨ad101,e101,hx101_0,hx101_1,hx101_2,hx101_3⟩:=at_T29 HR0.out x3_1 p101 q101
       cases e101
       replace hx101_0:=(HB.out.cell (World.block_lt_of_cell? w _ hx101_0)).trans hx101_0
       replace hx101_1:=(HB.out.cell (World.block_lt_of_cell? w _ hx101_1)).trans hx101_1
       replace hx101_2:=(HB.out.cell (World.block_lt_of_cell? w _ hx101_2)).trans hx101_2
       replace hx101_3:=(HB.out.cell (World.block_lt_of_cell? w _ hx101_3)).trans hx101_3
       replace p101:=eq_true p101
       replace q101:=eq_true q101
       go_wp2_with (first | (go_at_call 65;(with_reducible refine (xrSound.calls ((rd_T29 l0 x3_1).f0) ((rd_T29 l0 x3_1).f1) ((rd_T29 l0 x3_1).f2) ((rd_T29 l0 x3_1).f3) true _ A5.out).mono ?_);rintro e w7 ⟨rfl,hb⟩;have n0_:=Aside0.mk (below_step (by repeat (first | (with_reducible first | exact HB.out | apply below_alloc | apply pw_below_drewN | apply below_drew1) | exact HB.out)) hb);clear HB;have HB:=n0_;clear n0_;(try clear hb);(try clear hb2);(try clear hk);(try clear hi)))
       go_roundg k1
       case measure=>have:=HK1.out;omega
       case rel=>exact ⟨(wrap64 (x3_1 + 1)),(by first | rfl | (simp;done) | (simp [*];done)),H',⟨by have:=HK1.out;omega⟩,⟨by repeat (first | (with_reducible first | exact HB.out | apply below_alloc | apply pw_below_drewN | apply below_drew1) | exact HB.out)⟩⟩
      ·replace c6:=Bool.eq_false_iff.mpr c6
       subst c6
       have H1 : (some false) = some r:=by rw [if_neg (show ¬ (false = true) by decide)] at H;exact H
       clear H
       have H:=H1
       clear H1
       obtain rfl:=Option.some.inj H
       have p101 : 0 ≤ (x3_1 : Int):=of_decide_eq_true (by first | (with_reducible assumption) | assumption)
       have q101 : x3_1 < (l0.length : Int):=of_decide_eq_true (by first | (with_reducible assumption) | assumption)
       obtain ⟨ad101,e101,hx101_0,hx101_1,hx101_2,hx101_3⟩:=at_T29 HR0.out x3_1 p101 q101
       cases e101
       replace hx101_0:=(HB.out.cell (World.block_lt_of_cell? w _ hx101_0)).trans hx101_0
       replace hx101_1:=(HB.out.cell (World.block_lt_of_cell? w _ hx101_1)).trans hx101_1
       replace hx101_2:=(HB.out.cell (World.block_lt_of_cell? w _ hx101_2)).trans hx101_2
       replace hx101_3:=(HB.out.cell (World.block_lt_of_cell? w _ hx101_3)).trans hx101_3
       replace p101:=eq_true p101
       replace q101:=eq_true q101
       go_wp2_with (first | (go_at_call 65;(with_reducible refine (xrSound.calls ((rd_T29 l0 x3_1).f0) ((rd_T29 l0 x3_1).f1) ((rd_T29 l0 x3_1).f2) ((rd_T29 l0 x3_1).f3) false _ A5.out).mono ?_);rintro e w8 ⟨rfl,hb⟩;have n0_:=Aside0.mk (below_step (by repeat (first | (with_reducible first | exact HB.out | apply below_alloc | apply pw_below_drewN | apply below_drew1) | exact HB.out)) hb);clear HB;have HB:=n0_;clear n0_;(try clear hb);(try clear hb2);(try clear hk);(try clear hi)))
       go_ret
       exact ⟨by first | rfl | (simp [errW_none,errW_some] <;> rfl) | (simp [*,errW_none,errW_some] <;> rfl),by repeat (first | (with_reducible first | exact HB.out | apply below_alloc | apply pw_below_drewN | apply below_drew1) | exact HB.out)⟩
     ·rw [if_neg c4] at H
      exact absurd H (by simp)
   ·rw [if_neg c2] at H
    have c2b0 : decide (x3_1 < (l0.length : Int)) = false:=decide_eq_false c2
    clear c2
    obtain rfl:=Option.some.inj H
    go_wp2
    go_ret
    exact ⟨by first | rfl | (simp [errW_none,errW_some] <;> rfl) | (simp [*,errW_none,errW_some] <;> rfl),by repeat (first | (with_reducible first | exact HB.out | apply below_alloc | apply pw_below_drewN | apply below_drew1) | exact HB.out)⟩
end Go.Proofs.YtakcjiinchghaaaGreatDoor.PRG
end
section
namespace Go.Proofs.YtakcjiinchghaaaGreatDoor.PRT
open Go.RowKit Go.Proofs.YtakcjiinchghaaaGreatDoorW.PrintWords Go.Proofs.YtakcjiinchghaaaGreatDoorW.PrintLast Go.Proofs.YtakcjiinchghaaaGreatDoor.PRW
set_option linter.unusedVariables false
set_option linter.unusedSimpArgs false
mutual
def freshetref05_takes.j0 : Nat → Bool → Int → Int → Int → Int → Int → ByteArray → Option (Int)
 | 0,_,_,_,_,_,_,_=>none
 | k + 1,x28,x102000,x102001,x102002,x102003,x102004,x102005=>if x28 = true then (some 0) else (if x102000 ≥ 3 then (if x102000 ≤ 5 then (freshetref05_takes.j1 k true x102000 x102001 x102002 x102003 x102004 x102005) else (if x102000 = 6 then (if x102001 ≥ 1 then (freshetref05_takes.j1 k (decide (x102001 ≤ 4)) x102000 x102001 x102002 x102003 x102004 x102005) else (freshetref05_takes.j1 k false x102000 x102001 x102002 x102003 x102004 x102005)) else (freshetref05_takes.j1 k false x102000 x102001 x102002 x102003 x102004 x102005))) else (if x102000 = 6 then (if x102001 ≥ 1 then (freshetref05_takes.j1 k (decide (x102001 ≤ 4)) x102000 x102001 x102002 x102003 x102004 x102005) else (freshetref05_takes.j1 k false x102000 x102001 x102002 x102003 x102004 x102005)) else (freshetref05_takes.j1 k false x102000 x102001 x102002 x102003 x102004 x102005)))
def freshetref05_takes.j1 : Nat → Bool → Int → Int → Int → Int → Int → ByteArray → Option (Int)
 | 0,_,_,_,_,_,_,_=>none
 | k + 1,x51,x102000,x102001,x102002,x102003,x102004,x102005=>if x51 = true then (some 1) else (if x102000 ≥ 10 then (if x102000 ≤ 24 then (some 2) else (some (-1))) else (some (-1)))
end
def freshetref05_takes.f (k : Nat) (a0_0 : Int) (a0_1 : Int) (a0_2 : Int) (a0_3 : Int) (a0_4 : Int) (a0_5 : ByteArray) (a1 : Int) : Option (Int):=if a0_0 = 1 then ((xrSound.f a0_2 a0_3 a0_4 a0_5).bind fun t102=>(if t102 = true then (freshetref05_takes.j0 k true a0_0 a0_1 a0_2 a0_3 a0_4 a0_5) else (if a0_0 = 2 then (if a0_1 ≥ 0 then (freshetref05_takes.j0 k (decide (a0_1 < a1)) a0_0 a0_1 a0_2 a0_3 a0_4 a0_5) else (freshetref05_takes.j0 k false a0_0 a0_1 a0_2 a0_3 a0_4 a0_5)) else (freshetref05_takes.j0 k false a0_0 a0_1 a0_2 a0_3 a0_4 a0_5)))) else (if a0_0 = 2 then (if a0_1 ≥ 0 then (freshetref05_takes.j0 k (decide (a0_1 < a1)) a0_0 a0_1 a0_2 a0_3 a0_4 a0_5) else (freshetref05_takes.j0 k false a0_0 a0_1 a0_2 a0_3 a0_4 a0_5)) else (freshetref05_takes.j0 k false a0_0 a0_1 a0_2 a0_3 a0_4 a0_5))
theorem freshetref05_takes.mono_l : ∀ k,(∀ y0 y1 y2 y3 y4 y5 y6,LeO (freshetref05_takes.j0 k y0 y1 y2 y3 y4 y5 y6) (freshetref05_takes.j0 (k + 1) y0 y1 y2 y3 y4 y5 y6)) ∧ (∀ y0 y1 y2 y3 y4 y5 y6,LeO (freshetref05_takes.j1 k y0 y1 y2 y3 y4 y5 y6) (freshetref05_takes.j1 (k + 1) y0 y1 y2 y3 y4 y5 y6))
 | 0=>⟨fun _ _ _ _ _ _ _ r h=>by simp [freshetref05_takes.j0] at h,fun _ _ _ _ _ _ _ r h=>by simp [freshetref05_takes.j1] at h⟩
 | k + 1=>by
  obtain ⟨ih0,ih1⟩:=freshetref05_takes.mono_l k
  refine ⟨?_, ?_⟩
  ·intro y0 y1 y2 y3 y4 y5 y6
   unfold freshetref05_takes.j0
   repeat' first
   | (with_reducible exact ih0 _ _ _ _ _ _ _)
   | (with_reducible exact ih1 _ _ _ _ _ _ _)
   | (with_reducible exact LeO.refl _)
   | (with_reducible exact LeO.none _)
   | (with_reducible refine LeO.ite ?_ ?_)
   | (with_reducible refine LeO.bind ?_ (fun _=>?_))
   | exact ih0 _ _ _ _ _ _ _
   | exact ih1 _ _ _ _ _ _ _
   | exact LeO.none _
   | refine LeO.ite ?_ ?_
   | refine LeO.bind ?_ (fun _=>?_)
  ·intro y0 y1 y2 y3 y4 y5 y6
   unfold freshetref05_takes.j1
   repeat' first
   | (with_reducible exact ih0 _ _ _ _ _ _ _)
   | (with_reducible exact ih1 _ _ _ _ _ _ _)
   | (with_reducible exact LeO.refl _)
   | (with_reducible exact LeO.none _)
   | (with_reducible refine LeO.ite ?_ ?_)
   | (with_reducible refine LeO.bind ?_ (fun _=>?_))
   | exact ih0 _ _ _ _ _ _ _
   | exact ih1 _ _ _ _ _ _ _
   | exact LeO.none _
   | refine LeO.ite ?_ ?_
   | refine LeO.bind ?_ (fun _=>?_)
theorem freshetref05_takes.mono : ∀ a0 a1 a2 a3 a4 a5 a6 k,LeO (freshetref05_takes.f k a0 a1 a2 a3 a4 a5 a6) (freshetref05_takes.f (k + 1) a0 a1 a2 a3 a4 a5 a6):=by
 intro a0 a1 a2 a3 a4 a5 a6 k
 obtain ⟨ih0,ih1⟩:=freshetref05_takes.mono_l k
 unfold freshetref05_takes.f
 repeat' first
   | (with_reducible exact ih0 _ _ _ _ _ _ _)
   | (with_reducible exact ih1 _ _ _ _ _ _ _)
   | (with_reducible exact LeO.refl _)
   | (with_reducible exact LeO.none _)
   | (with_reducible refine LeO.ite ?_ ?_)
   | (with_reducible refine LeO.bind ?_ (fun _=>?_))
   | exact ih0 _ _ _ _ _ _ _
   | exact ih1 _ _ _ _ _ _ _
   | exact LeO.none _
   | refine LeO.ite ?_ ?_
   | refine LeO.bind ?_ (fun _=>?_)
set_option maxHeartbeats 8000000 in
set_option maxRecDepth 100000 in
theorem freshetref05_takes.calls (k : Nat) (a0_0 : Int) (a0_1 : Int) (a0_2 : Int) (a0_3 : Int) (a0_4 : Int) (a0_5 : ByteArray) (a1 : Int) (r : Int) (w : World) (h : freshetref05_takes.f k a0_0 a0_1 a0_2 a0_3 a0_4 a0_5 a1 = some r) :
  Calls Tryz.prog 39 #[.agg #[.int .i64 a0_0,.int .i64 a0_1,.int .i64 a0_2,.int .i64 a0_3,.int .u64 a0_4,.string a0_5],.int .i64 a1] w fun e w'=>e = .returned (.int .i64 r) ∧ Below w.heap.size w w':=by
 have hu41:=Tryz.underlying41
 have hu29:=Tryz.underlying29
 have HB:=Aside0.mk (Below.refl w.heap.size w)
 have H : (if a0_0 = 1 then ((xrSound.f a0_2 a0_3 a0_4 a0_5).bind fun t102=>(if t102 = true then (freshetref05_takes.j0 k true a0_0 a0_1 a0_2 a0_3 a0_4 a0_5) else (if a0_0 = 2 then (if a0_1 ≥ 0 then (freshetref05_takes.j0 k (decide (a0_1 < a1)) a0_0 a0_1 a0_2 a0_3 a0_4 a0_5) else (freshetref05_takes.j0 k false a0_0 a0_1 a0_2 a0_3 a0_4 a0_5)) else (freshetref05_takes.j0 k false a0_0 a0_1 a0_2 a0_3 a0_4 a0_5)))) else (if a0_0 = 2 then (if a0_1 ≥ 0 then (freshetref05_takes.j0 k (decide (a0_1 < a1)) a0_0 a0_1 a0_2 a0_3 a0_4 a0_5) else (freshetref05_takes.j0 k false a0_0 a0_1 a0_2 a0_3 a0_4 a0_5)) else (freshetref05_takes.j0 k false a0_0 a0_1 a0_2 a0_3 a0_4 a0_5))) = some r:=h
 clear h
 have HC3:=Aside0.mk H
 clear H
 go_enter Tryz.func39,Tryz.ntmps39
 go_upto_region 1 with (first | ((with_reducible refine gate_dst (N:=2) rfl ?_);refine box_event ?hg (N:=2) ?hd (cs:=#[.int .i64 a0_0,.int .i64 a0_1,.int .i64 a0_2,.int .i64 a0_3,.int .u64 a0_4,.string a0_5]) (t:=41) ?hr ?_;(case hd=>rfl);(case hg=>rfl);(case hr=>first | (go_simp;done) | (go_simp;rfl));intro gb101 hg w4 hbox hb;have n0_:=Aside0.mk (below_step (by repeat (first | (with_reducible first | exact HB.out | apply below_alloc | apply pw_below_drewN | apply below_drew1) | exact HB.out)) hb);have n1_:=Aside0.mk (hbox);have n2_:=Aside0.mk ((by rw [hg];exact (below_size (by repeat (first | (with_reducible first | exact HB.out | apply below_alloc | apply pw_below_drewN | apply below_drew1) | exact HB.out))) : w.heap.size ≤ gb101));have n3_:=Aside0.mk ((by rw [hg];exact (below_size (by repeat (first | (with_reducible first | exact HB.out | apply below_alloc | apply pw_below_drewN | apply below_drew1) | exact HB.out))) : w.heap.size ≤ gb101));clear HB;have HB:=n0_;have BK101:=n1_;have GW101:=n2_;have GE101:=n3_;clear n0_ n1_ n2_ n3_;clear hb hbox hg))
 (try simp only [Act.put,List.setIfInBounds_toArray,List.set_cons_zero,List.set_cons_succ])
 go_cut [28] (fun v28 wc=>∃ (kq : Nat) (x28_2 : Bool),v28 = .bool x28_2 ∧ Aside0 (freshetref05_takes.j0 kq x28_2 a0_0 a0_1 a0_2 a0_3 a0_4 a0_5 = some r) ∧ Aside0 (kq ≤ k) ∧ Aside0 (wc.heap[gb101]? = some (.cells #[.int .i64 a0_0,.int .i64 a0_1,.int .i64 a0_2,.int .i64 a0_3,.int .u64 a0_4,.string a0_5] 41 (0,0))) ∧ Aside0 (Below w.heap.size w wc))
 case first =>
  have H:=HC3.out
  clear HC3
  by_cases c5 : a0_0 = 1
  ·rw [if_pos c5] at H
   have c5b0 : (a0_0 == 1) = true:=beq_iff_eq.mpr c5
   have c5b1 : (a0_0 != 1) = false:=bne_eq_false_iff_eq.mpr c5
   clear c5
   (first | rw [c5b0] | (simp only [i64_w,i32_w];rw [c5b0]) | skip)
   replace H:=Option.bind_eq_some_iff.mp H
   obtain ⟨t102,A60,H⟩:=H
   replace H : (if t102 = true then (freshetref05_takes.j0 k true a0_0 a0_1 a0_2 a0_3 a0_4 a0_5) else (if a0_0 = 2 then (if a0_1 ≥ 0 then (freshetref05_takes.j0 k (decide (a0_1 < a1)) a0_0 a0_1 a0_2 a0_3 a0_4 a0_5) else (freshetref05_takes.j0 k false a0_0 a0_1 a0_2 a0_3 a0_4 a0_5)) else (freshetref05_takes.j0 k false a0_0 a0_1 a0_2 a0_3 a0_4 a0_5))) = some r:=H
   have A6:=Aside0.mk A60
   clear A60
   by_cases c7 : t102 = true
   ·subst c7
    have H1 : (freshetref05_takes.j0 k true a0_0 a0_1 a0_2 a0_3 a0_4 a0_5) = some r:=by rw [if_pos rfl] at H;exact H
    clear H
    have H:=H1
    clear H1
    have H':=Aside0.mk H
    clear H
    have hcz8_0 : w4.cell? ⟨gb101,0,none⟩ = some (.int .i64 a0_0):=(blk_cell BK101.out 0).trans rfl
    have hcz8_1 : w4.cell? ⟨gb101,1,none⟩ = some (.int .i64 a0_1):=(blk_cell BK101.out 1).trans rfl
    have hcz8_2 : w4.cell? ⟨gb101,2,none⟩ = some (.int .i64 a0_2):=(blk_cell BK101.out 2).trans rfl
    have hcz8_3 : w4.cell? ⟨gb101,3,none⟩ = some (.int .i64 a0_3):=(blk_cell BK101.out 3).trans rfl
    have hcz8_4 : w4.cell? ⟨gb101,4,none⟩ = some (.int .u64 a0_4):=(blk_cell BK101.out 4).trans rfl
    have hcz8_5 : w4.cell? ⟨gb101,5,none⟩ = some (.string a0_5):=(blk_cell BK101.out 5).trans rfl
    have hfz8_0:=blk_frozen BK101.out 0
    have hfz8_1:=blk_frozen BK101.out 1
    have hfz8_2:=blk_frozen BK101.out 2
    have hfz8_3:=blk_frozen BK101.out 3
    have hfz8_4:=blk_frozen BK101.out 4
    have hfz8_5:=blk_frozen BK101.out 5
    go_wp2_with (first | (go_at_call 65;(with_reducible refine (xrSound.calls a0_2 a0_3 a0_4 a0_5 true _ A6.out).mono ?_);rintro e w9 ⟨rfl,hb⟩;have n0_:=Aside0.mk (blk_below (g:=gb101) (o:=.cells #[.int .i64 a0_0,.int .i64 a0_1,.int .i64 a0_2,.int .i64 a0_3,.int .u64 a0_4,.string a0_5] 41 (0,0)) (by (with_reducible repeat (first | refine blk_drewN ?_ _ | refine blk_drew ?_ | refine blk_alloc ?_ _));exact BK101.out) hb);have n1_:=Aside0.mk (below_step (by repeat (first | (with_reducible first | exact HB.out | apply below_alloc | apply pw_below_drewN | apply below_drew1 | refine below_set ?_ GE101.out) | exact HB.out)) hb);clear BK101;clear HB;have BK101:=n0_;have HB:=n1_;clear n0_ n1_;(try clear hb);(try clear hb2);(try clear hk);(try clear hi)))
    go_meet
    case rel=>exact ⟨_,(true),(by first | rfl | (simp;done) | (simp [*];done)),H',⟨by first | omega | exact Nat.le_refl _⟩,⟨by (with_reducible repeat (first | refine blk_drewN ?_ _ | refine blk_drew ?_ | refine blk_alloc ?_ _));exact BK101.out⟩,⟨by repeat (first | (with_reducible first | exact HB.out | apply below_alloc | apply pw_below_drewN | apply below_drew1 | refine below_set ?_ GE101.out) | exact HB.out)⟩⟩
   ·replace c7:=Bool.eq_false_iff.mpr c7
    subst c7
    have H1 : (if a0_0 = 2 then (if a0_1 ≥ 0 then (freshetref05_takes.j0 k (decide (a0_1 < a1)) a0_0 a0_1 a0_2 a0_3 a0_4 a0_5) else (freshetref05_takes.j0 k false a0_0 a0_1 a0_2 a0_3 a0_4 a0_5)) else (freshetref05_takes.j0 k false a0_0 a0_1 a0_2 a0_3 a0_4 a0_5)) = some r:=by rw [if_neg (show ¬ (false = true) by decide)] at H;exact H
    clear H
    have H:=H1
    clear H1
    by_cases c10 : a0_0 = 2
    ·rw [if_pos c10] at H
     have c10b0 : (a0_0 == 2) = true:=beq_iff_eq.mpr c10
     have c10b1 : (a0_0 != 2) = false:=bne_eq_false_iff_eq.mpr c10
     clear c10
     by_cases c11 : a0_1 ≥ 0
     ·rw [if_pos c11] at H
      have c11b0 : decide (0 ≤ a0_1) = true:=decide_eq_true c11
      clear c11
      have H':=Aside0.mk H
      clear H
      have hcz12_0 : w4.cell? ⟨gb101,0,none⟩ = some (.int .i64 a0_0):=(blk_cell BK101.out 0).trans rfl
      have hcz12_1 : w4.cell? ⟨gb101,1,none⟩ = some (.int .i64 a0_1):=(blk_cell BK101.out 1).trans rfl
      have hcz12_2 : w4.cell? ⟨gb101,2,none⟩ = some (.int .i64 a0_2):=(blk_cell BK101.out 2).trans rfl
      have hcz12_3 : w4.cell? ⟨gb101,3,none⟩ = some (.int .i64 a0_3):=(blk_cell BK101.out 3).trans rfl
      have hcz12_4 : w4.cell? ⟨gb101,4,none⟩ = some (.int .u64 a0_4):=(blk_cell BK101.out 4).trans rfl
      have hcz12_5 : w4.cell? ⟨gb101,5,none⟩ = some (.string a0_5):=(blk_cell BK101.out 5).trans rfl
      have hfz12_0:=blk_frozen BK101.out 0
      have hfz12_1:=blk_frozen BK101.out 1
      have hfz12_2:=blk_frozen BK101.out 2
      have hfz12_3:=blk_frozen BK101.out 3
      have hfz12_4:=blk_frozen BK101.out 4
      have hfz12_5:=blk_frozen BK101.out 5
      go_wp2_with (first | (go_at_call 65;(with_reducible refine (xrSound.calls a0_2 a0_3 a0_4 a0_5 false _ A6.out).mono ?_);rintro e w13 ⟨rfl,hb⟩;have n0_:=Aside0.mk (blk_below (g:=gb101) (o:=.cells #[.int .i64 a0_0,.int .i64 a0_1,.int .i64 a0_2,.int .i64 a0_3,.int .u64 a0_4,.string a0_5] 41 (0,0)) (by (with_reducible repeat (first | refine blk_drewN ?_ _ | refine blk_drew ?_ | refine blk_alloc ?_ _));exact BK101.out) hb);have n1_:=Aside0.mk (below_step (by repeat (first | (with_reducible first | exact HB.out | apply below_alloc | apply pw_below_drewN | apply below_drew1 | refine below_set ?_ GE101.out) | exact HB.out)) hb);clear BK101;clear HB;have BK101:=n0_;have HB:=n1_;clear n0_ n1_;(try clear hb);(try clear hb2);(try clear hk);(try clear hi);have hcz14_0 : w13.cell? ⟨gb101,0,none⟩ = some (.int .i64 a0_0):=(blk_cell BK101.out 0).trans rfl;have hcz14_1 : w13.cell? ⟨gb101,1,none⟩ = some (.int .i64 a0_1):=(blk_cell BK101.out 1).trans rfl;have hcz14_2 : w13.cell? ⟨gb101,2,none⟩ = some (.int .i64 a0_2):=(blk_cell BK101.out 2).trans rfl;have hcz14_3 : w13.cell? ⟨gb101,3,none⟩ = some (.int .i64 a0_3):=(blk_cell BK101.out 3).trans rfl;have hcz14_4 : w13.cell? ⟨gb101,4,none⟩ = some (.int .u64 a0_4):=(blk_cell BK101.out 4).trans rfl;have hcz14_5 : w13.cell? ⟨gb101,5,none⟩ = some (.string a0_5):=(blk_cell BK101.out 5).trans rfl;have hfz14_0:=blk_frozen BK101.out 0;have hfz14_1:=blk_frozen BK101.out 1;have hfz14_2:=blk_frozen BK101.out 2;have hfz14_3:=blk_frozen BK101.out 3;have hfz14_4:=blk_frozen BK101.out 4;have hfz14_5:=blk_frozen BK101.out 5))
      go_meet
      case rel=>exact ⟨_,(decide (a0_1 < a1)),(by first | rfl | (simp;done) | (simp [*];done)),H',⟨by first | omega | exact Nat.le_refl _⟩,⟨by (with_reducible repeat (first | refine blk_drewN ?_ _ | refine blk_drew ?_ | refine blk_alloc ?_ _));exact BK101.out⟩,⟨by repeat (first | (with_reducible first | exact HB.out | apply below_alloc | apply pw_below_drewN | apply below_drew1 | refine below_set ?_ GE101.out) | exact HB.out)⟩⟩
     ·rw [if_neg c11] at H
      have c11b0 : decide (0 ≤ a0_1) = false:=decide_eq_false c11
      clear c11
      have H':=Aside0.mk H
      clear H
      have hcz15_0 : w4.cell? ⟨gb101,0,none⟩ = some (.int .i64 a0_0):=(blk_cell BK101.out 0).trans rfl
      have hcz15_1 : w4.cell? ⟨gb101,1,none⟩ = some (.int .i64 a0_1):=(blk_cell BK101.out 1).trans rfl
      have hcz15_2 : w4.cell? ⟨gb101,2,none⟩ = some (.int .i64 a0_2):=(blk_cell BK101.out 2).trans rfl
      have hcz15_3 : w4.cell? ⟨gb101,3,none⟩ = some (.int .i64 a0_3):=(blk_cell BK101.out 3).trans rfl
      have hcz15_4 : w4.cell? ⟨gb101,4,none⟩ = some (.int .u64 a0_4):=(blk_cell BK101.out 4).trans rfl
      have hcz15_5 : w4.cell? ⟨gb101,5,none⟩ = some (.string a0_5):=(blk_cell BK101.out 5).trans rfl
      have hfz15_0:=blk_frozen BK101.out 0
      have hfz15_1:=blk_frozen BK101.out 1
      have hfz15_2:=blk_frozen BK101.out 2
      have hfz15_3:=blk_frozen BK101.out 3
      have hfz15_4:=blk_frozen BK101.out 4
      have hfz15_5:=blk_frozen BK101.out 5
      go_wp2_with (first | (go_at_call 65;(with_reducible refine (xrSound.calls a0_2 a0_3 a0_4 a0_5 false _ A6.out).mono ?_);rintro e w16 ⟨rfl,hb⟩;have n0_:=Aside0.mk (blk_below (g:=gb101) (o:=.cells #[.int .i64 a0_0,.int .i64 a0_1,.int .i64 a0_2,.int .i64 a0_3,.int .u64 a0_4,.string a0_5] 41 (0,0)) (by (with_reducible repeat (first | refine blk_drewN ?_ _ | refine blk_drew ?_ | refine blk_alloc ?_ _));exact BK101.out) hb);have n1_:=Aside0.mk (below_step (by repeat (first | (with_reducible first | exact HB.out | apply below_alloc | apply pw_below_drewN | apply below_drew1 | refine below_set ?_ GE101.out) | exact HB.out)) hb);clear BK101;clear HB;have BK101:=n0_;have HB:=n1_;clear n0_ n1_;(try clear hb);(try clear hb2);(try clear hk);(try clear hi);have hcz17_0 : w16.cell? ⟨gb101,0,none⟩ = some (.int .i64 a0_0):=(blk_cell BK101.out 0).trans rfl;have hcz17_1 : w16.cell? ⟨gb101,1,none⟩ = some (.int .i64 a0_1):=(blk_cell BK101.out 1).trans rfl;have hcz17_2 : w16.cell? ⟨gb101,2,none⟩ = some (.int .i64 a0_2):=(blk_cell BK101.out 2).trans rfl;have hcz17_3 : w16.cell? ⟨gb101,3,none⟩ = some (.int .i64 a0_3):=(blk_cell BK101.out 3).trans rfl;have hcz17_4 : w16.cell? ⟨gb101,4,none⟩ = some (.int .u64 a0_4):=(blk_cell BK101.out 4).trans rfl;have hcz17_5 : w16.cell? ⟨gb101,5,none⟩ = some (.string a0_5):=(blk_cell BK101.out 5).trans rfl;have hfz17_0:=blk_frozen BK101.out 0;have hfz17_1:=blk_frozen BK101.out 1;have hfz17_2:=blk_frozen BK101.out 2;have hfz17_3:=blk_frozen BK101.out 3;have hfz17_4:=blk_frozen BK101.out 4;have hfz17_5:=blk_frozen BK101.out 5))
      go_meet
      case rel=>exact ⟨_,(false),(by first | rfl | (simp;done) | (simp [*];done)),H',⟨by first | omega | exact Nat.le_refl _⟩,⟨by (with_reducible repeat (first | refine blk_drewN ?_ _ | refine blk_drew ?_ | refine blk_alloc ?_ _));exact BK101.out⟩,⟨by repeat (first | (with_reducible first | exact HB.out | apply below_alloc | apply pw_below_drewN | apply below_drew1 | refine below_set ?_ GE101.out) | exact HB.out)⟩⟩
    ·rw [if_neg c10] at H
     have c10b0 : (a0_0 == 2) = false:=beq_eq_false_iff_ne.mpr c10
     have c10b1 : (a0_0 != 2) = true:=bne_iff_ne.mpr c10
     have H':=Aside0.mk H
     clear H
     have hcz18_0 : w4.cell? ⟨gb101,0,none⟩ = some (.int .i64 a0_0):=(blk_cell BK101.out 0).trans rfl
     have hcz18_1 : w4.cell? ⟨gb101,1,none⟩ = some (.int .i64 a0_1):=(blk_cell BK101.out 1).trans rfl
     have hcz18_2 : w4.cell? ⟨gb101,2,none⟩ = some (.int .i64 a0_2):=(blk_cell BK101.out 2).trans rfl
     have hcz18_3 : w4.cell? ⟨gb101,3,none⟩ = some (.int .i64 a0_3):=(blk_cell BK101.out 3).trans rfl
     have hcz18_4 : w4.cell? ⟨gb101,4,none⟩ = some (.int .u64 a0_4):=(blk_cell BK101.out 4).trans rfl
     have hcz18_5 : w4.cell? ⟨gb101,5,none⟩ = some (.string a0_5):=(blk_cell BK101.out 5).trans rfl
     have hfz18_0:=blk_frozen BK101.out 0
     have hfz18_1:=blk_frozen BK101.out 1
     have hfz18_2:=blk_frozen BK101.out 2
     have hfz18_3:=blk_frozen BK101.out 3
     have hfz18_4:=blk_frozen BK101.out 4
     have hfz18_5:=blk_frozen BK101.out 5
     go_wp2_with (first | (go_at_call 65;(with_reducible refine (xrSound.calls a0_2 a0_3 a0_4 a0_5 false _ A6.out).mono ?_);rintro e w19 ⟨rfl,hb⟩;have n0_:=Aside0.mk (blk_below (g:=gb101) (o:=.cells #[.int .i64 a0_0,.int .i64 a0_1,.int .i64 a0_2,.int .i64 a0_3,.int .u64 a0_4,.string a0_5] 41 (0,0)) (by (with_reducible repeat (first | refine blk_drewN ?_ _ | refine blk_drew ?_ | refine blk_alloc ?_ _));exact BK101.out) hb);have n1_:=Aside0.mk (below_step (by repeat (first | (with_reducible first | exact HB.out | apply below_alloc | apply pw_below_drewN | apply below_drew1 | refine below_set ?_ GE101.out) | exact HB.out)) hb);clear BK101;clear HB;have BK101:=n0_;have HB:=n1_;clear n0_ n1_;(try clear hb);(try clear hb2);(try clear hk);(try clear hi);have hcz20_0 : w19.cell? ⟨gb101,0,none⟩ = some (.int .i64 a0_0):=(blk_cell BK101.out 0).trans rfl;have hcz20_1 : w19.cell? ⟨gb101,1,none⟩ = some (.int .i64 a0_1):=(blk_cell BK101.out 1).trans rfl;have hcz20_2 : w19.cell? ⟨gb101,2,none⟩ = some (.int .i64 a0_2):=(blk_cell BK101.out 2).trans rfl;have hcz20_3 : w19.cell? ⟨gb101,3,none⟩ = some (.int .i64 a0_3):=(blk_cell BK101.out 3).trans rfl;have hcz20_4 : w19.cell? ⟨gb101,4,none⟩ = some (.int .u64 a0_4):=(blk_cell BK101.out 4).trans rfl;have hcz20_5 : w19.cell? ⟨gb101,5,none⟩ = some (.string a0_5):=(blk_cell BK101.out 5).trans rfl;have hfz20_0:=blk_frozen BK101.out 0;have hfz20_1:=blk_frozen BK101.out 1;have hfz20_2:=blk_frozen BK101.out 2;have hfz20_3:=blk_frozen BK101.out 3;have hfz20_4:=blk_frozen BK101.out 4;have hfz20_5:=blk_frozen BK101.out 5))
     go_meet
     case rel=>exact ⟨_,(false),(by first | rfl | (simp;done) | (simp [*];done)),H',⟨by first | omega | exact Nat.le_refl _⟩,⟨by (with_reducible repeat (first | refine blk_drewN ?_ _ | refine blk_drew ?_ | refine blk_alloc ?_ _));exact BK101.out⟩,⟨by repeat (first | (with_reducible first | exact HB.out | apply below_alloc | apply pw_below_drewN | apply below_drew1 | refine below_set ?_ GE101.out) | exact HB.out)⟩⟩
  ·rw [if_neg c5] at H
   have c5b0 : (a0_0 == 1) = false:=beq_eq_false_iff_ne.mpr c5
   have c5b1 : (a0_0 != 1) = true:=bne_iff_ne.mpr c5
   (first | rw [c5b0] | (simp only [i64_w,i32_w];rw [c5b0]) | skip)
   by_cases c21 : a0_0 = 2
   ·rw [if_pos c21] at H
    have c21b0 : (a0_0 == 2) = true:=beq_iff_eq.mpr c21
    have c21b1 : (a0_0 != 2) = false:=bne_eq_false_iff_eq.mpr c21
    clear c21
    by_cases c22 : a0_1 ≥ 0
    ·rw [if_pos c22] at H
     have c22b0 : decide (0 ≤ a0_1) = true:=decide_eq_true c22
     clear c22
     have H':=Aside0.mk H
     clear H
     have hcz23_0 : w4.cell? ⟨gb101,0,none⟩ = some (.int .i64 a0_0):=(blk_cell BK101.out 0).trans rfl
     have hcz23_1 : w4.cell? ⟨gb101,1,none⟩ = some (.int .i64 a0_1):=(blk_cell BK101.out 1).trans rfl
     have hcz23_2 : w4.cell? ⟨gb101,2,none⟩ = some (.int .i64 a0_2):=(blk_cell BK101.out 2).trans rfl
     have hcz23_3 : w4.cell? ⟨gb101,3,none⟩ = some (.int .i64 a0_3):=(blk_cell BK101.out 3).trans rfl
     have hcz23_4 : w4.cell? ⟨gb101,4,none⟩ = some (.int .u64 a0_4):=(blk_cell BK101.out 4).trans rfl
     have hcz23_5 : w4.cell? ⟨gb101,5,none⟩ = some (.string a0_5):=(blk_cell BK101.out 5).trans rfl
     have hfz23_0:=blk_frozen BK101.out 0
     have hfz23_1:=blk_frozen BK101.out 1
     have hfz23_2:=blk_frozen BK101.out 2
     have hfz23_3:=blk_frozen BK101.out 3
     have hfz23_4:=blk_frozen BK101.out 4
     have hfz23_5:=blk_frozen BK101.out 5
     go_wp2
     go_meet
     case rel=>exact ⟨_,(decide (a0_1 < a1)),(by first | rfl | (simp;done) | (simp [*];done)),H',⟨by first | omega | exact Nat.le_refl _⟩,⟨by (with_reducible repeat (first | refine blk_drewN ?_ _ | refine blk_drew ?_ | refine blk_alloc ?_ _));exact BK101.out⟩,⟨by repeat (first | (with_reducible first | exact HB.out | apply below_alloc | apply pw_below_drewN | apply below_drew1 | refine below_set ?_ GE101.out) | exact HB.out)⟩⟩
    ·rw [if_neg c22] at H
     have c22b0 : decide (0 ≤ a0_1) = false:=decide_eq_false c22
     clear c22
     have H':=Aside0.mk H
     clear H
     have hcz24_0 : w4.cell? ⟨gb101,0,none⟩ = some (.int .i64 a0_0):=(blk_cell BK101.out 0).trans rfl
     have hcz24_1 : w4.cell? ⟨gb101,1,none⟩ = some (.int .i64 a0_1):=(blk_cell BK101.out 1).trans rfl
     have hcz24_2 : w4.cell? ⟨gb101,2,none⟩ = some (.int .i64 a0_2):=(blk_cell BK101.out 2).trans rfl
     have hcz24_3 : w4.cell? ⟨gb101,3,none⟩ = some (.int .i64 a0_3):=(blk_cell BK101.out 3).trans rfl
     have hcz24_4 : w4.cell? ⟨gb101,4,none⟩ = some (.int .u64 a0_4):=(blk_cell BK101.out 4).trans rfl
     have hcz24_5 : w4.cell? ⟨gb101,5,none⟩ = some (.string a0_5):=(blk_cell BK101.out 5).trans rfl
     have hfz24_0:=blk_frozen BK101.out 0
     have hfz24_1:=blk_frozen BK101.out 1
     have hfz24_2:=blk_frozen BK101.out 2
     have hfz24_3:=blk_frozen BK101.out 3
     have hfz24_4:=blk_frozen BK101.out 4
     have hfz24_5:=blk_frozen BK101.out 5
     go_wp2
     go_meet
     case rel=>exact ⟨_,(false),(by first | rfl | (simp;done) | (simp [*];done)),H',⟨by first | omega | exact Nat.le_refl _⟩,⟨by (with_reducible repeat (first | refine blk_drewN ?_ _ | refine blk_drew ?_ | refine blk_alloc ?_ _));exact BK101.out⟩,⟨by repeat (first | (with_reducible first | exact HB.out | apply below_alloc | apply pw_below_drewN | apply below_drew1 | refine below_set ?_ GE101.out) | exact HB.out)⟩⟩
   ·rw [if_neg c21] at H
    have c21b0 : (a0_0 == 2) = false:=beq_eq_false_iff_ne.mpr c21
    have c21b1 : (a0_0 != 2) = true:=bne_iff_ne.mpr c21
    have H':=Aside0.mk H
    clear H
    have hcz25_0 : w4.cell? ⟨gb101,0,none⟩ = some (.int .i64 a0_0):=(blk_cell BK101.out 0).trans rfl
    have hcz25_1 : w4.cell? ⟨gb101,1,none⟩ = some (.int .i64 a0_1):=(blk_cell BK101.out 1).trans rfl
    have hcz25_2 : w4.cell? ⟨gb101,2,none⟩ = some (.int .i64 a0_2):=(blk_cell BK101.out 2).trans rfl
    have hcz25_3 : w4.cell? ⟨gb101,3,none⟩ = some (.int .i64 a0_3):=(blk_cell BK101.out 3).trans rfl
    have hcz25_4 : w4.cell? ⟨gb101,4,none⟩ = some (.int .u64 a0_4):=(blk_cell BK101.out 4).trans rfl
    have hcz25_5 : w4.cell? ⟨gb101,5,none⟩ = some (.string a0_5):=(blk_cell BK101.out 5).trans rfl
    have hfz25_0:=blk_frozen BK101.out 0
    have hfz25_1:=blk_frozen BK101.out 1
    have hfz25_2:=blk_frozen BK101.out 2
    have hfz25_3:=blk_frozen BK101.out 3
    have hfz25_4:=blk_frozen BK101.out 4
    have hfz25_5:=blk_frozen BK101.out 5
    go_wp2
    go_meet
    case rel=>exact ⟨_,(false),(by first | rfl | (simp;done) | (simp [*];done)),H',⟨by first | omega | exact Nat.le_refl _⟩,⟨by (with_reducible repeat (first | refine blk_drewN ?_ _ | refine blk_drew ?_ | refine blk_alloc ?_ _));exact BK101.out⟩,⟨by repeat (first | (with_reducible first | exact HB.out | apply below_alloc | apply pw_below_drewN | apply below_drew1 | refine below_set ?_ GE101.out) | exact HB.out)⟩⟩
 case rest =>
  clear HC3
  try clear c1
  try clear c2
  try clear p2
  try clear c3
  try clear c5
  try clear c5b0
  try clear c5b1
  try clear c7
  try clear c10
  try clear c10b0
  try clear c10b1
  try clear c11
  try clear c11b0
  try clear c21
  try clear c21b0
  try clear c21b1
  try clear c22
  try clear c22b0
  try clear hcz12_0
  try clear hcz12_1
  try clear hcz12_2
  try clear hcz12_3
  try clear hcz12_4
  try clear hcz12_5
  try clear hcz14_0
  try clear hcz14_1
  try clear hcz14_2
  try clear hcz14_3
  try clear hcz14_4
  try clear hcz14_5
  try clear hcz15_0
  try clear hcz15_1
  try clear hcz15_2
  try clear hcz15_3
  try clear hcz15_4
  try clear hcz15_5
  try clear hcz17_0
  try clear hcz17_1
  try clear hcz17_2
  try clear hcz17_3
  try clear hcz17_4
  try clear hcz17_5
  try clear hcz18_0
  try clear hcz18_1
  try clear hcz18_2
  try clear hcz18_3
  try clear hcz18_4
  try clear hcz18_5
  try clear hcz20_0
  try clear hcz20_1
  try clear hcz20_2
  try clear hcz20_3
  try clear hcz20_4
  try clear hcz20_5
  try clear hcz23_0
  try clear hcz23_1
  try clear hcz23_2
  try clear hcz23_3
  try clear hcz23_4
  try clear hcz23_5
  try clear hcz24_0
  try clear hcz24_1
  try clear hcz24_2
  try clear hcz24_3
  try clear hcz24_4
  try clear hcz24_5
  try clear hcz25_0
  try clear hcz25_1
  try clear hcz25_2
  try clear hcz25_3
  try clear hcz25_4
  try clear hcz25_5
  try clear hcz8_0
  try clear hcz8_1
  try clear hcz8_2
  try clear hcz8_3
  try clear hcz8_4
  try clear hcz8_5
  try clear hfz12_0
  try clear hfz12_1
  try clear hfz12_2
  try clear hfz12_3
  try clear hfz12_4
  try clear hfz12_5
  try clear hfz14_0
  try clear hfz14_1
  try clear hfz14_2
  try clear hfz14_3
  try clear hfz14_4
  try clear hfz14_5
  try clear hfz15_0
  try clear hfz15_1
  try clear hfz15_2
  try clear hfz15_3
  try clear hfz15_4
  try clear hfz15_5
  try clear hfz17_0
  try clear hfz17_1
  try clear hfz17_2
  try clear hfz17_3
  try clear hfz17_4
  try clear hfz17_5
  try clear hfz18_0
  try clear hfz18_1
  try clear hfz18_2
  try clear hfz18_3
  try clear hfz18_4
  try clear hfz18_5
  try clear hfz20_0
  try clear hfz20_1
  try clear hfz20_2
  try clear hfz20_3
  try clear hfz20_4
  try clear hfz20_5
  try clear hfz23_0
  try clear hfz23_1
  try clear hfz23_2
  try clear hfz23_3
  try clear hfz23_4
  try clear hfz23_5
  try clear hfz24_0
  try clear hfz24_1
  try clear hfz24_2
  try clear hfz24_3
  try clear hfz24_4
  try clear hfz24_5
  try clear hfz25_0
  try clear hfz25_1
  try clear hfz25_2
  try clear hfz25_3
  try clear hfz25_4
  try clear hfz25_5
  try clear hfz8_0
  try clear hfz8_1
  try clear hfz8_2
  try clear hfz8_3
  try clear hfz8_4
  try clear hfz8_5
  obtain ⟨kq,x28_2,rfl,HA,HJ2,BK101,HB⟩:=hcut
  cases kq with
  | zero=>exact absurd HA.out (by simp [freshetref05_takes.j0])
  | succ kj2 =>
   have H:=HA.out
   clear HA
   simp only [freshetref05_takes.j0] at H
   by_cases c26 : x28_2 = true
   ·subst c26
    have H1 : (some 0) = some r:=by rw [if_pos rfl] at H;exact H
    clear H
    have H:=H1
    clear H1
    obtain rfl:=Option.some.inj H
    go_wp2
    go_ret
    exact ⟨by first | rfl | (simp [errW_none,errW_some] <;> rfl) | (simp [*,errW_none,errW_some] <;> rfl),by repeat (first | (with_reducible first | exact HB.out | apply below_alloc | apply pw_below_drewN | apply below_drew1 | refine below_set ?_ GE101.out) | exact HB.out)⟩
   ·replace c26:=Bool.eq_false_iff.mpr c26
    subst c26
    have H1 : (if a0_0 ≥ 3 then (if a0_0 ≤ 5 then (freshetref05_takes.j1 kj2 true a0_0 a0_1 a0_2 a0_3 a0_4 a0_5) else (if a0_0 = 6 then (if a0_1 ≥ 1 then (freshetref05_takes.j1 kj2 (decide (a0_1 ≤ 4)) a0_0 a0_1 a0_2 a0_3 a0_4 a0_5) else (freshetref05_takes.j1 kj2 false a0_0 a0_1 a0_2 a0_3 a0_4 a0_5)) else (freshetref05_takes.j1 kj2 false a0_0 a0_1 a0_2 a0_3 a0_4 a0_5))) else (if a0_0 = 6 then (if a0_1 ≥ 1 then (freshetref05_takes.j1 kj2 (decide (a0_1 ≤ 4)) a0_0 a0_1 a0_2 a0_3 a0_4 a0_5) else (freshetref05_takes.j1 kj2 false a0_0 a0_1 a0_2 a0_3 a0_4 a0_5)) else (freshetref05_takes.j1 kj2 false a0_0 a0_1 a0_2 a0_3 a0_4 a0_5))) = some r:=by rw [if_neg (show ¬ (false = true) by decide)] at H;exact H
    clear H
    have H:=H1
    clear H1
    have HC27:=Aside0.mk H
    clear H
    go_upto_region 3 with (fail)
    go_cut [51] (fun v51 wc=>∃ (kq : Nat) (x51_26 : Bool),v51 = .bool x51_26 ∧ Aside0 (freshetref05_takes.j1 kq x51_26 a0_0 a0_1 a0_2 a0_3 a0_4 a0_5 = some r) ∧ Aside0 (kq ≤ kj2) ∧ Aside0 (wc.heap[gb101]? = some (.cells #[.int .i64 a0_0,.int .i64 a0_1,.int .i64 a0_2,.int .i64 a0_3,.int .u64 a0_4,.string a0_5] 41 (0,0))) ∧ Aside0 (Below w.heap.size w wc))
    case first =>
     have H:=HC27.out
     clear HC27
     by_cases c28 : a0_0 ≥ 3
     ·rw [if_pos c28] at H
      have c28b0 : decide (3 ≤ a0_0) = true:=decide_eq_true c28
      clear c28
      (first | rw [c28b0] | (simp only [i64_w,i32_w];rw [c28b0]) | skip)
      by_cases c29 : a0_0 ≤ 5
      ·rw [if_pos c29] at H
       have c29b0 : decide (a0_0 ≤ 5) = true:=decide_eq_true c29
       clear c29
       have H':=Aside0.mk H
       clear H
       have hcz30_0 : wc.cell? ⟨gb101,0,none⟩ = some (.int .i64 a0_0):=(blk_cell BK101.out 0).trans rfl
       have hcz30_1 : wc.cell? ⟨gb101,1,none⟩ = some (.int .i64 a0_1):=(blk_cell BK101.out 1).trans rfl
       have hcz30_2 : wc.cell? ⟨gb101,2,none⟩ = some (.int .i64 a0_2):=(blk_cell BK101.out 2).trans rfl
       have hcz30_3 : wc.cell? ⟨gb101,3,none⟩ = some (.int .i64 a0_3):=(blk_cell BK101.out 3).trans rfl
       have hcz30_4 : wc.cell? ⟨gb101,4,none⟩ = some (.int .u64 a0_4):=(blk_cell BK101.out 4).trans rfl
       have hcz30_5 : wc.cell? ⟨gb101,5,none⟩ = some (.string a0_5):=(blk_cell BK101.out 5).trans rfl
       have hfz30_0:=blk_frozen BK101.out 0
       have hfz30_1:=blk_frozen BK101.out 1
       have hfz30_2:=blk_frozen BK101.out 2
       have hfz30_3:=blk_frozen BK101.out 3
       have hfz30_4:=blk_frozen BK101.out 4
       have hfz30_5:=blk_frozen BK101.out 5
       go_wp2
       go_meet
       case rel=>exact ⟨_,(true),(by first | rfl | (simp;done) | (simp [*];done)),H',⟨by have:=HJ2.out;first | omega | exact Nat.le_refl _⟩,⟨by (with_reducible repeat (first | refine blk_drewN ?_ _ | refine blk_drew ?_ | refine blk_alloc ?_ _));exact BK101.out⟩,⟨by repeat (first | (with_reducible first | exact HB.out | apply below_alloc | apply pw_below_drewN | apply below_drew1 | refine below_set ?_ GE101.out) | exact HB.out)⟩⟩
      ·rw [if_neg c29] at H
       have c29b0 : decide (a0_0 ≤ 5) = false:=decide_eq_false c29
       clear c29
       by_cases c31 : a0_0 = 6
       ·rw [if_pos c31] at H
        have c31b0 : (a0_0 == 6) = true:=beq_iff_eq.mpr c31
        have c31b1 : (a0_0 != 6) = false:=bne_eq_false_iff_eq.mpr c31
        clear c31
        by_cases c32 : a0_1 ≥ 1
        ·rw [if_pos c32] at H
         have c32b0 : decide (1 ≤ a0_1) = true:=decide_eq_true c32
         clear c32
         have H':=Aside0.mk H
         clear H
         have hcz33_0 : wc.cell? ⟨gb101,0,none⟩ = some (.int .i64 a0_0):=(blk_cell BK101.out 0).trans rfl
         have hcz33_1 : wc.cell? ⟨gb101,1,none⟩ = some (.int .i64 a0_1):=(blk_cell BK101.out 1).trans rfl
         have hcz33_2 : wc.cell? ⟨gb101,2,none⟩ = some (.int .i64 a0_2):=(blk_cell BK101.out 2).trans rfl
         have hcz33_3 : wc.cell? ⟨gb101,3,none⟩ = some (.int .i64 a0_3):=(blk_cell BK101.out 3).trans rfl
         have hcz33_4 : wc.cell? ⟨gb101,4,none⟩ = some (.int .u64 a0_4):=(blk_cell BK101.out 4).trans rfl
         have hcz33_5 : wc.cell? ⟨gb101,5,none⟩ = some (.string a0_5):=(blk_cell BK101.out 5).trans rfl
         have hfz33_0:=blk_frozen BK101.out 0
         have hfz33_1:=blk_frozen BK101.out 1
         have hfz33_2:=blk_frozen BK101.out 2
         have hfz33_3:=blk_frozen BK101.out 3
         have hfz33_4:=blk_frozen BK101.out 4
         have hfz33_5:=blk_frozen BK101.out 5
         go_wp2
         go_meet
         case rel=>exact ⟨_,(decide (a0_1 ≤ 4)),(by first | rfl | (simp;done) | (simp [*];done)),H',⟨by have:=HJ2.out;first | omega | exact Nat.le_refl _⟩,⟨by (with_reducible repeat (first | refine blk_drewN ?_ _ | refine blk_drew ?_ | refine blk_alloc ?_ _));exact BK101.out⟩,⟨by repeat (first | (with_reducible first | exact HB.out | apply below_alloc | apply pw_below_drewN | apply below_drew1 | refine below_set ?_ GE101.out) | exact HB.out)⟩⟩
        ·rw [if_neg c32] at H
         have c32b0 : decide (1 ≤ a0_1) = false:=decide_eq_false c32
         clear c32
         have H':=Aside0.mk H
         clear H
         have hcz34_0 : wc.cell? ⟨gb101,0,none⟩ = some (.int .i64 a0_0):=(blk_cell BK101.out 0).trans rfl
         have hcz34_1 : wc.cell? ⟨gb101,1,none⟩ = some (.int .i64 a0_1):=(blk_cell BK101.out 1).trans rfl
         have hcz34_2 : wc.cell? ⟨gb101,2,none⟩ = some (.int .i64 a0_2):=(blk_cell BK101.out 2).trans rfl
         have hcz34_3 : wc.cell? ⟨gb101,3,none⟩ = some (.int .i64 a0_3):=(blk_cell BK101.out 3).trans rfl
         have hcz34_4 : wc.cell? ⟨gb101,4,none⟩ = some (.int .u64 a0_4):=(blk_cell BK101.out 4).trans rfl
         have hcz34_5 : wc.cell? ⟨gb101,5,none⟩ = some (.string a0_5):=(blk_cell BK101.out 5).trans rfl
         have hfz34_0:=blk_frozen BK101.out 0
         have hfz34_1:=blk_frozen BK101.out 1
         have hfz34_2:=blk_frozen BK101.out 2
         have hfz34_3:=blk_frozen BK101.out 3
         have hfz34_4:=blk_frozen BK101.out 4
         have hfz34_5:=blk_frozen BK101.out 5
         go_wp2
         go_meet
         case rel=>exact ⟨_,(false),(by first | rfl | (simp;done) | (simp [*];done)),H',⟨by have:=HJ2.out;first | omega | exact Nat.le_refl _⟩,⟨by (with_reducible repeat (first | refine blk_drewN ?_ _ | refine blk_drew ?_ | refine blk_alloc ?_ _));exact BK101.out⟩,⟨by repeat (first | (with_reducible first | exact HB.out | apply below_alloc | apply pw_below_drewN | apply below_drew1 | refine below_set ?_ GE101.out) | exact HB.out)⟩⟩
       ·rw [if_neg c31] at H
        have c31b0 : (a0_0 == 6) = false:=beq_eq_false_iff_ne.mpr c31
        have c31b1 : (a0_0 != 6) = true:=bne_iff_ne.mpr c31
        have H':=Aside0.mk H
        clear H
        have hcz35_0 : wc.cell? ⟨gb101,0,none⟩ = some (.int .i64 a0_0):=(blk_cell BK101.out 0).trans rfl
        have hcz35_1 : wc.cell? ⟨gb101,1,none⟩ = some (.int .i64 a0_1):=(blk_cell BK101.out 1).trans rfl
        have hcz35_2 : wc.cell? ⟨gb101,2,none⟩ = some (.int .i64 a0_2):=(blk_cell BK101.out 2).trans rfl
        have hcz35_3 : wc.cell? ⟨gb101,3,none⟩ = some (.int .i64 a0_3):=(blk_cell BK101.out 3).trans rfl
        have hcz35_4 : wc.cell? ⟨gb101,4,none⟩ = some (.int .u64 a0_4):=(blk_cell BK101.out 4).trans rfl
        have hcz35_5 : wc.cell? ⟨gb101,5,none⟩ = some (.string a0_5):=(blk_cell BK101.out 5).trans rfl
        have hfz35_0:=blk_frozen BK101.out 0
        have hfz35_1:=blk_frozen BK101.out 1
        have hfz35_2:=blk_frozen BK101.out 2
        have hfz35_3:=blk_frozen BK101.out 3
        have hfz35_4:=blk_frozen BK101.out 4
        have hfz35_5:=blk_frozen BK101.out 5
        go_wp2
        go_meet
        case rel=>exact ⟨_,(false),(by first | rfl | (simp;done) | (simp [*];done)),H',⟨by have:=HJ2.out;first | omega | exact Nat.le_refl _⟩,⟨by (with_reducible repeat (first | refine blk_drewN ?_ _ | refine blk_drew ?_ | refine blk_alloc ?_ _));exact BK101.out⟩,⟨by repeat (first | (with_reducible first | exact HB.out | apply below_alloc | apply pw_below_drewN | apply below_drew1 | refine below_set ?_ GE101.out) | exact HB.out)⟩⟩
     ·rw [if_neg c28] at H
      have c28b0 : decide (3 ≤ a0_0) = false:=decide_eq_false c28
      clear c28
      (first | rw [c28b0] | (simp only [i64_w,i32_w];rw [c28b0]) | skip)
      by_cases c36 : a0_0 = 6
      ·rw [if_pos c36] at H
       have c36b0 : (a0_0 == 6) = true:=beq_iff_eq.mpr c36
       have c36b1 : (a0_0 != 6) = false:=bne_eq_false_iff_eq.mpr c36
       clear c36
       by_cases c37 : a0_1 ≥ 1
       ·rw [if_pos c37] at H
        have c37b0 : decide (1 ≤ a0_1) = true:=decide_eq_true c37
        clear c37
        have H':=Aside0.mk H
        clear H
        have hcz38_0 : wc.cell? ⟨gb101,0,none⟩ = some (.int .i64 a0_0):=(blk_cell BK101.out 0).trans rfl
        have hcz38_1 : wc.cell? ⟨gb101,1,none⟩ = some (.int .i64 a0_1):=(blk_cell BK101.out 1).trans rfl
        have hcz38_2 : wc.cell? ⟨gb101,2,none⟩ = some (.int .i64 a0_2):=(blk_cell BK101.out 2).trans rfl
        have hcz38_3 : wc.cell? ⟨gb101,3,none⟩ = some (.int .i64 a0_3):=(blk_cell BK101.out 3).trans rfl
        have hcz38_4 : wc.cell? ⟨gb101,4,none⟩ = some (.int .u64 a0_4):=(blk_cell BK101.out 4).trans rfl
        have hcz38_5 : wc.cell? ⟨gb101,5,none⟩ = some (.string a0_5):=(blk_cell BK101.out 5).trans rfl
        have hfz38_0:=blk_frozen BK101.out 0
        have hfz38_1:=blk_frozen BK101.out 1
        have hfz38_2:=blk_frozen BK101.out 2
        have hfz38_3:=blk_frozen BK101.out 3
        have hfz38_4:=blk_frozen BK101.out 4
        have hfz38_5:=blk_frozen BK101.out 5
        go_wp2
        go_meet
        case rel=>exact ⟨_,(decide (a0_1 ≤ 4)),(by first | rfl | (simp;done) | (simp [*];done)),H',⟨by have:=HJ2.out;first | omega | exact Nat.le_refl _⟩,⟨by (with_reducible repeat (first | refine blk_drewN ?_ _ | refine blk_drew ?_ | refine blk_alloc ?_ _));exact BK101.out⟩,⟨by repeat (first | (with_reducible first | exact HB.out | apply below_alloc | apply pw_below_drewN | apply below_drew1 | refine below_set ?_ GE101.out) | exact HB.out)⟩⟩
       ·rw [if_neg c37] at H
        have c37b0 : decide (1 ≤ a0_1) = false:=decide_eq_false c37
        clear c37
        have H':=Aside0.mk H
        clear H
        have hcz39_0 : wc.cell? ⟨gb101,0,none⟩ = some (.int .i64 a0_0):=(blk_cell BK101.out 0).trans rfl
        have hcz39_1 : wc.cell? ⟨gb101,1,none⟩ = some (.int .i64 a0_1):=(blk_cell BK101.out 1).trans rfl
        have hcz39_2 : wc.cell? ⟨gb101,2,none⟩ = some (.int .i64 a0_2):=(blk_cell BK101.out 2).trans rfl
        have hcz39_3 : wc.cell? ⟨gb101,3,none⟩ = some (.int .i64 a0_3):=(blk_cell BK101.out 3).trans rfl
        have hcz39_4 : wc.cell? ⟨gb101,4,none⟩ = some (.int .u64 a0_4):=(blk_cell BK101.out 4).trans rfl
        have hcz39_5 : wc.cell? ⟨gb101,5,none⟩ = some (.string a0_5):=(blk_cell BK101.out 5).trans rfl
        have hfz39_0:=blk_frozen BK101.out 0
        have hfz39_1:=blk_frozen BK101.out 1
        have hfz39_2:=blk_frozen BK101.out 2
        have hfz39_3:=blk_frozen BK101.out 3
        have hfz39_4:=blk_frozen BK101.out 4
        have hfz39_5:=blk_frozen BK101.out 5
        go_wp2
        go_meet
        case rel=>exact ⟨_,(false),(by first | rfl | (simp;done) | (simp [*];done)),H',⟨by have:=HJ2.out;first | omega | exact Nat.le_refl _⟩,⟨by (with_reducible repeat (first | refine blk_drewN ?_ _ | refine blk_drew ?_ | refine blk_alloc ?_ _));exact BK101.out⟩,⟨by repeat (first | (with_reducible first | exact HB.out | apply below_alloc | apply pw_below_drewN | apply below_drew1 | refine below_set ?_ GE101.out) | exact HB.out)⟩⟩
      ·rw [if_neg c36] at H
       have c36b0 : (a0_0 == 6) = false:=beq_eq_false_iff_ne.mpr c36
       have c36b1 : (a0_0 != 6) = true:=bne_iff_ne.mpr c36
       have H':=Aside0.mk H
       clear H
       have hcz40_0 : wc.cell? ⟨gb101,0,none⟩ = some (.int .i64 a0_0):=(blk_cell BK101.out 0).trans rfl
       have hcz40_1 : wc.cell? ⟨gb101,1,none⟩ = some (.int .i64 a0_1):=(blk_cell BK101.out 1).trans rfl
       have hcz40_2 : wc.cell? ⟨gb101,2,none⟩ = some (.int .i64 a0_2):=(blk_cell BK101.out 2).trans rfl
       have hcz40_3 : wc.cell? ⟨gb101,3,none⟩ = some (.int .i64 a0_3):=(blk_cell BK101.out 3).trans rfl
       have hcz40_4 : wc.cell? ⟨gb101,4,none⟩ = some (.int .u64 a0_4):=(blk_cell BK101.out 4).trans rfl
       have hcz40_5 : wc.cell? ⟨gb101,5,none⟩ = some (.string a0_5):=(blk_cell BK101.out 5).trans rfl
       have hfz40_0:=blk_frozen BK101.out 0
       have hfz40_1:=blk_frozen BK101.out 1
       have hfz40_2:=blk_frozen BK101.out 2
       have hfz40_3:=blk_frozen BK101.out 3
       have hfz40_4:=blk_frozen BK101.out 4
       have hfz40_5:=blk_frozen BK101.out 5
       go_wp2
       go_meet
       case rel=>exact ⟨_,(false),(by first | rfl | (simp;done) | (simp [*];done)),H',⟨by have:=HJ2.out;first | omega | exact Nat.le_refl _⟩,⟨by (with_reducible repeat (first | refine blk_drewN ?_ _ | refine blk_drew ?_ | refine blk_alloc ?_ _));exact BK101.out⟩,⟨by repeat (first | (with_reducible first | exact HB.out | apply below_alloc | apply pw_below_drewN | apply below_drew1 | refine below_set ?_ GE101.out) | exact HB.out)⟩⟩
    case rest =>
     clear HC27
     try clear c1
     try clear c2
     try clear p2
     try clear c3
     try clear c5
     try clear c5b0
     try clear c5b1
     try clear c7
     try clear c10
     try clear c10b0
     try clear c10b1
     try clear c11
     try clear c11b0
     try clear c21
     try clear c21b0
     try clear c21b1
     try clear c22
     try clear c22b0
     try clear c26
     try clear c28
     try clear c28b0
     try clear c29
     try clear c29b0
     try clear c31
     try clear c31b0
     try clear c31b1
     try clear c32
     try clear c32b0
     try clear c36
     try clear c36b0
     try clear c36b1
     try clear c37
     try clear c37b0
     try clear c39
     try clear hcz12_0
     try clear hcz12_1
     try clear hcz12_2
     try clear hcz12_3
     try clear hcz12_4
     try clear hcz12_5
     try clear hcz14_0
     try clear hcz14_1
     try clear hcz14_2
     try clear hcz14_3
     try clear hcz14_4
     try clear hcz14_5
     try clear hcz15_0
     try clear hcz15_1
     try clear hcz15_2
     try clear hcz15_3
     try clear hcz15_4
     try clear hcz15_5
     try clear hcz17_0
     try clear hcz17_1
     try clear hcz17_2
     try clear hcz17_3
     try clear hcz17_4
     try clear hcz17_5
     try clear hcz18_0
     try clear hcz18_1
     try clear hcz18_2
     try clear hcz18_3
     try clear hcz18_4
     try clear hcz18_5
     try clear hcz20_0
     try clear hcz20_1
     try clear hcz20_2
     try clear hcz20_3
     try clear hcz20_4
     try clear hcz20_5
     try clear hcz23_0
     try clear hcz23_1
     try clear hcz23_2
     try clear hcz23_3
     try clear hcz23_4
     try clear hcz23_5
     try clear hcz24_0
     try clear hcz24_1
     try clear hcz24_2
     try clear hcz24_3
     try clear hcz24_4
     try clear hcz24_5
     try clear hcz25_0
     try clear hcz25_1
     try clear hcz25_2
     try clear hcz25_3
     try clear hcz25_4
     try clear hcz25_5
     try clear hcz30_0
     try clear hcz30_1
     try clear hcz30_2
     try clear hcz30_3
     try clear hcz30_4
     try clear hcz30_5
     try clear hcz33_0
     try clear hcz33_1
     try clear hcz33_2
     try clear hcz33_3
     try clear hcz33_4
     try clear hcz33_5
     try clear hcz34_0
     try clear hcz34_1
     try clear hcz34_2
     try clear hcz34_3
     try clear hcz34_4
     try clear hcz34_5
     try clear hcz35_0
     try clear hcz35_1
     try clear hcz35_2
     try clear hcz35_3
     try clear hcz35_4
     try clear hcz35_5
     try clear hcz38_0
     try clear hcz38_1
     try clear hcz38_2
     try clear hcz38_3
     try clear hcz38_4
     try clear hcz38_5
     try clear hcz39_0
     try clear hcz39_1
     try clear hcz39_2
     try clear hcz39_3
     try clear hcz39_4
     try clear hcz39_5
     try clear hcz40_0
     try clear hcz40_1
     try clear hcz40_2
     try clear hcz40_3
     try clear hcz40_4
     try clear hcz40_5
     try clear hcz8_0
     try clear hcz8_1
     try clear hcz8_2
     try clear hcz8_3
     try clear hcz8_4
     try clear hcz8_5
     try clear hfz12_0
     try clear hfz12_1
     try clear hfz12_2
     try clear hfz12_3
     try clear hfz12_4
     try clear hfz12_5
     try clear hfz14_0
     try clear hfz14_1
     try clear hfz14_2
     try clear hfz14_3
     try clear hfz14_4
     try clear hfz14_5
     try clear hfz15_0
     try clear hfz15_1
     try clear hfz15_2
     try clear hfz15_3
     try clear hfz15_4
     try clear hfz15_5
     try clear hfz17_0
     try clear hfz17_1
     try clear hfz17_2
     try clear hfz17_3
     try clear hfz17_4
     try clear hfz17_5
     try clear hfz18_0
     try clear hfz18_1
     try clear hfz18_2
     try clear hfz18_3
     try clear hfz18_4
     try clear hfz18_5
     try clear hfz20_0
     try clear hfz20_1
     try clear hfz20_2
     try clear hfz20_3
     try clear hfz20_4
     try clear hfz20_5
     try clear hfz23_0
     try clear hfz23_1
     try clear hfz23_2
     try clear hfz23_3
     try clear hfz23_4
     try clear hfz23_5
     try clear hfz24_0
     try clear hfz24_1
     try clear hfz24_2
     try clear hfz24_3
     try clear hfz24_4
     try clear hfz24_5
     try clear hfz25_0
     try clear hfz25_1
     try clear hfz25_2
     try clear hfz25_3
     try clear hfz25_4
     try clear hfz25_5
     try clear hfz30_0
     try clear hfz30_1
     try clear hfz30_2
     try clear hfz30_3
     try clear hfz30_4
     try clear hfz30_5
     try clear hfz33_0
     try clear hfz33_1
     try clear hfz33_2
     try clear hfz33_3
     try clear hfz33_4
     try clear hfz33_5
     try clear hfz34_0
     try clear hfz34_1
     try clear hfz34_2
     try clear hfz34_3
     try clear hfz34_4
     try clear hfz34_5
     try clear hfz35_0
     try clear hfz35_1
     try clear hfz35_2
     try clear hfz35_3
     try clear hfz35_4
     try clear hfz35_5
     try clear hfz38_0
     try clear hfz38_1
     try clear hfz38_2
     try clear hfz38_3
     try clear hfz38_4
     try clear hfz38_5
     try clear hfz39_0
     try clear hfz39_1
     try clear hfz39_2
     try clear hfz39_3
     try clear hfz39_4
     try clear hfz39_5
     try clear hfz40_0
     try clear hfz40_1
     try clear hfz40_2
     try clear hfz40_3
     try clear hfz40_4
     try clear hfz40_5
     try clear hfz8_0
     try clear hfz8_1
     try clear hfz8_2
     try clear hfz8_3
     try clear hfz8_4
     try clear hfz8_5
     try clear p2
     obtain ⟨kq,x51_26,rfl,HA,HJ26,BK101,HB⟩:=hcut
     cases kq with
     | zero=>exact absurd HA.out (by simp [freshetref05_takes.j1])
     | succ kj26 =>
      have H:=HA.out
      clear HA
      simp only [freshetref05_takes.j1] at H
      by_cases c41 : x51_26 = true
      ·subst c41
       have H1 : (some 1) = some r:=by rw [if_pos rfl] at H;exact H
       clear H
       have H:=H1
       clear H1
       obtain rfl:=Option.some.inj H
       go_wp2
       go_ret
       exact ⟨by first | rfl | (simp [errW_none,errW_some] <;> rfl) | (simp [*,errW_none,errW_some] <;> rfl),by repeat (first | (with_reducible first | exact HB.out | apply below_alloc | apply pw_below_drewN | apply below_drew1 | refine below_set ?_ GE101.out) | exact HB.out)⟩
      ·replace c41:=Bool.eq_false_iff.mpr c41
       subst c41
       have H1 : (if a0_0 ≥ 10 then (if a0_0 ≤ 24 then (some 2) else (some (-1))) else (some (-1))) = some r:=by rw [if_neg (show ¬ (false = true) by decide)] at H;exact H
       clear H
       have H:=H1
       clear H1
       by_cases c42 : a0_0 ≥ 10
       ·rw [if_pos c42] at H
        have c42b0 : decide (10 ≤ a0_0) = true:=decide_eq_true c42
        clear c42
        by_cases c43 : a0_0 ≤ 24
        ·rw [if_pos c43] at H
         have c43b0 : decide (a0_0 ≤ 24) = true:=decide_eq_true c43
         clear c43
         obtain rfl:=Option.some.inj H
         have hcz44_0 : wc.cell? ⟨gb101,0,none⟩ = some (.int .i64 a0_0):=(blk_cell BK101.out 0).trans rfl
         have hcz44_1 : wc.cell? ⟨gb101,1,none⟩ = some (.int .i64 a0_1):=(blk_cell BK101.out 1).trans rfl
         have hcz44_2 : wc.cell? ⟨gb101,2,none⟩ = some (.int .i64 a0_2):=(blk_cell BK101.out 2).trans rfl
         have hcz44_3 : wc.cell? ⟨gb101,3,none⟩ = some (.int .i64 a0_3):=(blk_cell BK101.out 3).trans rfl
         have hcz44_4 : wc.cell? ⟨gb101,4,none⟩ = some (.int .u64 a0_4):=(blk_cell BK101.out 4).trans rfl
         have hcz44_5 : wc.cell? ⟨gb101,5,none⟩ = some (.string a0_5):=(blk_cell BK101.out 5).trans rfl
         have hfz44_0:=blk_frozen BK101.out 0
         have hfz44_1:=blk_frozen BK101.out 1
         have hfz44_2:=blk_frozen BK101.out 2
         have hfz44_3:=blk_frozen BK101.out 3
         have hfz44_4:=blk_frozen BK101.out 4
         have hfz44_5:=blk_frozen BK101.out 5
         go_wp2
         go_ret
         exact ⟨by first | rfl | (simp [errW_none,errW_some] <;> rfl) | (simp [*,errW_none,errW_some] <;> rfl),by repeat (first | (with_reducible first | exact HB.out | apply below_alloc | apply pw_below_drewN | apply below_drew1 | refine below_set ?_ GE101.out) | exact HB.out)⟩
        ·rw [if_neg c43] at H
         have c43b0 : decide (a0_0 ≤ 24) = false:=decide_eq_false c43
         clear c43
         obtain rfl:=Option.some.inj H
         have hcz45_0 : wc.cell? ⟨gb101,0,none⟩ = some (.int .i64 a0_0):=(blk_cell BK101.out 0).trans rfl
         have hcz45_1 : wc.cell? ⟨gb101,1,none⟩ = some (.int .i64 a0_1):=(blk_cell BK101.out 1).trans rfl
         have hcz45_2 : wc.cell? ⟨gb101,2,none⟩ = some (.int .i64 a0_2):=(blk_cell BK101.out 2).trans rfl
         have hcz45_3 : wc.cell? ⟨gb101,3,none⟩ = some (.int .i64 a0_3):=(blk_cell BK101.out 3).trans rfl
         have hcz45_4 : wc.cell? ⟨gb101,4,none⟩ = some (.int .u64 a0_4):=(blk_cell BK101.out 4).trans rfl
         have hcz45_5 : wc.cell? ⟨gb101,5,none⟩ = some (.string a0_5):=(blk_cell BK101.out 5).trans rfl
         have hfz45_0:=blk_frozen BK101.out 0
         have hfz45_1:=blk_frozen BK101.out 1
         have hfz45_2:=blk_frozen BK101.out 2
         have hfz45_3:=blk_frozen BK101.out 3
         have hfz45_4:=blk_frozen BK101.out 4
         have hfz45_5:=blk_frozen BK101.out 5
         go_wp2
         go_ret
         exact ⟨by first | rfl | (simp [errW_none,errW_some] <;> rfl) | (simp [*,errW_none,errW_some] <;> rfl),by repeat (first | (with_reducible first | exact HB.out | apply below_alloc | apply pw_below_drewN | apply below_drew1 | refine below_set ?_ GE101.out) | exact HB.out)⟩
       ·rw [if_neg c42] at H
        have c42b0 : decide (10 ≤ a0_0) = false:=decide_eq_false c42
        clear c42
        obtain rfl:=Option.some.inj H
        have hcz46_0 : wc.cell? ⟨gb101,0,none⟩ = some (.int .i64 a0_0):=(blk_cell BK101.out 0).trans rfl
        have hcz46_1 : wc.cell? ⟨gb101,1,none⟩ = some (.int .i64 a0_1):=(blk_cell BK101.out 1).trans rfl
        have hcz46_2 : wc.cell? ⟨gb101,2,none⟩ = some (.int .i64 a0_2):=(blk_cell BK101.out 2).trans rfl
        have hcz46_3 : wc.cell? ⟨gb101,3,none⟩ = some (.int .i64 a0_3):=(blk_cell BK101.out 3).trans rfl
        have hcz46_4 : wc.cell? ⟨gb101,4,none⟩ = some (.int .u64 a0_4):=(blk_cell BK101.out 4).trans rfl
        have hcz46_5 : wc.cell? ⟨gb101,5,none⟩ = some (.string a0_5):=(blk_cell BK101.out 5).trans rfl
        have hfz46_0:=blk_frozen BK101.out 0
        have hfz46_1:=blk_frozen BK101.out 1
        have hfz46_2:=blk_frozen BK101.out 2
        have hfz46_3:=blk_frozen BK101.out 3
        have hfz46_4:=blk_frozen BK101.out 4
        have hfz46_5:=blk_frozen BK101.out 5
        go_wp2
        go_ret
        exact ⟨by first | rfl | (simp [errW_none,errW_some] <;> rfl) | (simp [*,errW_none,errW_some] <;> rfl),by repeat (first | (with_reducible first | exact HB.out | apply below_alloc | apply pw_below_drewN | apply below_drew1 | refine below_set ?_ GE101.out) | exact HB.out)⟩
end Go.Proofs.YtakcjiinchghaaaGreatDoor.PRT
end
section
namespace Go.Proofs.YtakcjiinchghaaaGreatDoor.PRT
open Go.RowKit Go.Proofs.YtakcjiinchghaaaGreatDoorW.PrintWords Go.Proofs.YtakcjiinchghaaaGreatDoorW.PrintLast Go.Proofs.YtakcjiinchghaaaGreatDoor.PRW
set_option linter.unusedVariables false
set_option linter.unusedSimpArgs false
mutual
def freshetref05_Sound.j0 : Nat → List (S41) → Int → Bool → Option (Bool)
 | 0,_,_,_=>none
 | k + 1,x0,x1,x15=>if x15 = true then (some false) else (freshetref05_Sound.l0 k x0 x1 0 0)
def freshetref05_Sound.l0 : Nat → List (S41) → Int → Int → Int → Option (Bool)
 | 0,_,_,_,_=>none
 | k + 1,x0,x1,x5,x6=>if x6 < (x0.length : Int) then (if 0 ≤ x6 then ((freshetref05_takes.f k ((rd_T41 x0 x6).f0) ((rd_T41 x0 x6).f1) ((rd_T41 x0 x6).f2.f0) ((rd_T41 x0 x6).f2.f1) ((rd_T41 x0 x6).f2.f2) ((rd_T41 x0 x6).f2.f3) x1).bind fun t104=>(if t104 < 0 then (some false) else (if x5 < t104 then (some false) else (freshetref05_Sound.l0 k x0 x1 (wrap64 ((wrap64 (x5 - t104)) + 1)) (wrap64 (x6 + 1)))))) else (none)) else (some (x5 == 1))
end
def freshetref05_Sound.f (k : Nat) (l0 : List (S41)) (a1 : Int) : Option (Bool):=if (l0.length : Int) < 1 then (freshetref05_Sound.j0 k l0 a1 true) else (freshetref05_Sound.j0 k l0 a1 (decide ((l0.length : Int) > 4000)))
theorem freshetref05_Sound.mono_l : ∀ k,(∀ y0 y1 y2,LeO (freshetref05_Sound.j0 k y0 y1 y2) (freshetref05_Sound.j0 (k + 1) y0 y1 y2)) ∧ (∀ y0 y1 y2 y3,LeO (freshetref05_Sound.l0 k y0 y1 y2 y3) (freshetref05_Sound.l0 (k + 1) y0 y1 y2 y3))
 | 0=>⟨fun _ _ _ r h=>by simp [freshetref05_Sound.j0] at h,fun _ _ _ _ r h=>by simp [freshetref05_Sound.l0] at h⟩
 | k + 1=>by
  obtain ⟨ih0,ih1⟩:=freshetref05_Sound.mono_l k
  refine ⟨?_, ?_⟩
  ·intro y0 y1 y2
   unfold freshetref05_Sound.j0
   repeat' first
   | (with_reducible exact ih0 _ _ _)
   | (with_reducible exact ih1 _ _ _ _)
   | (with_reducible exact freshetref05_takes.mono _ _ _ _ _ _ _ _)
   | (with_reducible exact LeO.refl _)
   | (with_reducible exact LeO.none _)
   | (with_reducible refine LeO.ite ?_ ?_)
   | (with_reducible refine LeO.bind ?_ (fun _=>?_))
   | exact ih0 _ _ _
   | exact ih1 _ _ _ _
   | exact freshetref05_takes.mono _ _ _ _ _ _ _ _
   | exact LeO.none _
   | refine LeO.ite ?_ ?_
   | refine LeO.bind ?_ (fun _=>?_)
  ·intro y0 y1 y2 y3
   unfold freshetref05_Sound.l0
   repeat' first
   | (with_reducible exact ih0 _ _ _)
   | (with_reducible exact ih1 _ _ _ _)
   | (with_reducible exact freshetref05_takes.mono _ _ _ _ _ _ _ _)
   | (with_reducible exact LeO.refl _)
   | (with_reducible exact LeO.none _)
   | (with_reducible refine LeO.ite ?_ ?_)
   | (with_reducible refine LeO.bind ?_ (fun _=>?_))
   | exact ih0 _ _ _
   | exact ih1 _ _ _ _
   | exact freshetref05_takes.mono _ _ _ _ _ _ _ _
   | exact LeO.none _
   | refine LeO.ite ?_ ?_
   | refine LeO.bind ?_ (fun _=>?_)
theorem freshetref05_Sound.mono : ∀ a0 a1 k,LeO (freshetref05_Sound.f k a0 a1) (freshetref05_Sound.f (k + 1) a0 a1):=by
 intro a0 a1 k
 obtain ⟨ih0,ih1⟩:=freshetref05_Sound.mono_l k
 unfold freshetref05_Sound.f
 repeat' first
   | (with_reducible exact ih0 _ _ _)
   | (with_reducible exact ih1 _ _ _ _)
   | (with_reducible exact freshetref05_takes.mono _ _ _ _ _ _ _ _)
   | (with_reducible exact LeO.refl _)
   | (with_reducible exact LeO.none _)
   | (with_reducible refine LeO.ite ?_ ?_)
   | (with_reducible refine LeO.bind ?_ (fun _=>?_))
   | exact ih0 _ _ _
   | exact ih1 _ _ _ _
   | exact freshetref05_takes.mono _ _ _ _ _ _ _ _
   | exact LeO.none _
   | refine LeO.ite ?_ ?_
   | refine LeO.bind ?_ (fun _=>?_)
set_option maxHeartbeats 8000000 in
set_option maxRecDepth 100000 in
theorem freshetref05_Sound.calls (k : Nat) (A0 : Option Addr) (c0 : Nat) (l0 : List (S41)) (a1 : Int) (r : Bool) (w : World) (hr0 : Kd.C k41 w A0 l0.length l0) (hc0 : l0.length ≤ c0) (h : freshetref05_Sound.f k l0 a1 = some r) :
  Calls Tryz.prog 14 #[.slice A0 l0.length c0,.int .i64 a1] w fun e w'=>e = .returned (.bool r) ∧ Below w.heap.size w w':=by
 have hu41:=Tryz.underlying41
 have HR0:=Aside0.mk hr0
 have HC0:=Aside0.mk hc0
 clear hr0 hc0
 have HB:=Aside0.mk (Below.refl w.heap.size w)
 have H : (if (l0.length : Int) < 1 then (freshetref05_Sound.j0 k l0 a1 true) else (freshetref05_Sound.j0 k l0 a1 (decide ((l0.length : Int) > 4000)))) = some r:=h
 clear h
 have HC3:=Aside0.mk H
 clear H
 go_enter Tryz.func14,Tryz.ntmps14
 go_upto_region 1 with (fail)
 go_cut [15] (fun v15 wc=>∃ (kq : Nat) (x15_2 : Bool),v15 = .bool x15_2 ∧ Aside0 (freshetref05_Sound.j0 kq l0 a1 x15_2 = some r) ∧ Aside0 (kq ≤ k) ∧ Aside0 (Below w.heap.size w wc))
 case first =>
  have H:=HC3.out
  clear HC3
  by_cases c4 : (l0.length : Int) < 1
  ·rw [if_pos c4] at H
   have c4b0 : decide ((l0.length : Int) < 1) = true:=decide_eq_true c4
   have c4b1 : decide (l0.length < 1) = true:=decide_eq_true (by omega)
   clear c4
   (first | rw [c4b0] | (simp only [i64_w,i32_w];rw [c4b0]) | skip)
   have H':=Aside0.mk H
   clear H
   go_wp2
   go_meet
   case rel=>exact ⟨_,(true),(by first | rfl | (simp;done) | (simp [*];done)),H',⟨by first | omega | exact Nat.le_refl _⟩,⟨by repeat (first | (with_reducible first | exact HB.out | apply below_alloc | apply pw_below_drewN | apply below_drew1) | exact HB.out)⟩⟩
  ·rw [if_neg c4] at H
   have c4b0 : decide ((l0.length : Int) < 1) = false:=decide_eq_false c4
   have c4b1 : decide (l0.length < 1) = false:=decide_eq_false (by omega)
   clear c4
   (first | rw [c4b0] | (simp only [i64_w,i32_w];rw [c4b0]) | skip)
   have H':=Aside0.mk H
   clear H
   go_wp2
   go_meet
   case rel=>exact ⟨_,(decide ((l0.length : Int) > 4000)),(by first | rfl | (simp;done) | (simp [*];done)),H',⟨by first | omega | exact Nat.le_refl _⟩,⟨by repeat (first | (with_reducible first | exact HB.out | apply below_alloc | apply pw_below_drewN | apply below_drew1) | exact HB.out)⟩⟩
 case rest =>
  clear HC3
  try clear c1
  try clear p2
  try clear c4
  try clear c4b0
  try clear c4b1
  obtain ⟨kq,x15_2,rfl,HA,HJ2,HB⟩:=hcut
  cases kq with
  | zero=>exact absurd HA.out (by simp [freshetref05_Sound.j0])
  | succ kj2 =>
   have H:=HA.out
   clear HA
   simp only [freshetref05_Sound.j0] at H
   by_cases c5 : x15_2 = true
   ·subst c5
    have H1 : (some false) = some r:=by rw [if_pos rfl] at H;exact H
    clear H
    have H:=H1
    clear H1
    obtain rfl:=Option.some.inj H
    go_wp2
    go_ret
    exact ⟨by first | rfl | (simp [errW_none,errW_some] <;> rfl) | (simp [*,errW_none,errW_some] <;> rfl),by repeat (first | (with_reducible first | exact HB.out | apply below_alloc | apply pw_below_drewN | apply below_drew1) | exact HB.out)⟩
   ·replace c5:=Bool.eq_false_iff.mpr c5
    subst c5
    have H1 : (freshetref05_Sound.l0 kj2 l0 a1 0 0) = some r:=by rw [if_neg (show ¬ (false = true) by decide)] at H;exact H
    clear H
    have H:=H1
    clear H1
    have H':=Aside0.mk H
    clear H
    go_wp2
    go_loopg [5,6] kj2 (fun kq v5 v6 w'=>∃ (x5_2 : Int) (x6_2 : Int),v5 = .int .i64 x5_2 ∧ v6 = .int .i64 x6_2 ∧ Aside0 (freshetref05_Sound.l0 kq l0 a1 x5_2 x6_2 = some r) ∧ Aside0 (kq ≤ kj2) ∧ Aside0 (Below w.heap.size w w'))
    case atStart=>exact ⟨(0),(0),(by first | rfl | (simp;done) | (simp [*];done)),(by first | rfl | (simp;done) | (simp [*];done)),H',⟨Nat.le_refl _⟩,⟨by repeat (first | (with_reducible first | exact HB.out | apply below_alloc | apply pw_below_drewN | apply below_drew1) | exact HB.out)⟩⟩
    case round =>
     clear H'
     try clear c1
     try clear p2
     try clear c4
     try clear c4b0
     try clear c4b1
     try clear c5
     try clear p2
     obtain ⟨x5_2,x6_2,rfl,rfl,HA,HK2,HB⟩:=hrel
     cases gk with
     | zero=>exact absurd HA.out (by simp [freshetref05_Sound.l0])
     | succ k2 =>
      have H:=HA.out
      clear HA
      simp only [freshetref05_Sound.l0] at H
      by_cases c6 : x6_2 < (l0.length : Int)
      ·rw [if_pos c6] at H
       have c6b0 : decide (x6_2 < (l0.length : Int)) = true:=decide_eq_true c6
       clear c6
       by_cases c7 : 0 ≤ x6_2
       ·rw [if_pos c7] at H
        have c7b0 : decide (0 ≤ x6_2) = true:=decide_eq_true c7
        clear c7
        replace H:=Option.bind_eq_some_iff.mp H
        obtain ⟨t104,A80,H⟩:=H
        replace H : (if t104 < 0 then (some false) else (if x5_2 < t104 then (some false) else (freshetref05_Sound.l0 k2 l0 a1 (wrap64 ((wrap64 (x5_2 - t104)) + 1)) (wrap64 (x6_2 + 1))))) = some r:=H
        have A8:=Aside0.mk A80
        clear A80
        by_cases c9 : t104 < 0
        ·rw [if_pos c9] at H
         have c9b0 : decide (t104 < 0) = true:=decide_eq_true c9
         clear c9
         obtain rfl:=Option.some.inj H
         have p103 : 0 ≤ (x6_2 : Int):=of_decide_eq_true (by first | (with_reducible assumption) | assumption)
         have q103 : x6_2 < (l0.length : Int):=of_decide_eq_true (by first | (with_reducible assumption) | assumption)
         obtain ⟨ad103,e103,hx103_0,hx103_1,hx103_2,hx103_3,hx103_4,hx103_5⟩:=at_T41 HR0.out x6_2 p103 q103
         cases e103
         replace hx103_0:=(HB.out.cell (World.block_lt_of_cell? w _ hx103_0)).trans hx103_0
         replace hx103_1:=(HB.out.cell (World.block_lt_of_cell? w _ hx103_1)).trans hx103_1
         replace hx103_2:=(HB.out.cell (World.block_lt_of_cell? w _ hx103_2)).trans hx103_2
         replace hx103_3:=(HB.out.cell (World.block_lt_of_cell? w _ hx103_3)).trans hx103_3
         replace hx103_4:=(HB.out.cell (World.block_lt_of_cell? w _ hx103_4)).trans hx103_4
         replace hx103_5:=(HB.out.cell (World.block_lt_of_cell? w _ hx103_5)).trans hx103_5
         replace p103:=eq_true p103
         replace q103:=eq_true q103
         go_wp2_with (first | ((with_reducible refine gate_callee (f:=39) rfl ?_);refine goesL_ (some 27) rfl rfl Tryz.func39 (by kernel_rfl) rfl #[.agg #[.int .i64 ((rd_T41 l0 x6_2).f0),.int .i64 ((rd_T41 l0 x6_2).f1),.int .i64 ((rd_T41 l0 x6_2).f2.f0),.int .i64 ((rd_T41 l0 x6_2).f2.f1),.int .u64 ((rd_T41 l0 x6_2).f2.f2),.string ((rd_T41 l0 x6_2).f2.f3)],.int .i64 a1] rfl (by (try simp only [List.map_toArray,List.map_cons,List.map_nil]);first | done | rfl | (simp only [List.length_drop,List.length_take];rfl)) ?_;(with_reducible refine (freshetref05_takes.calls k2 ((rd_T41 l0 x6_2).f0) ((rd_T41 l0 x6_2).f1) ((rd_T41 l0 x6_2).f2.f0) ((rd_T41 l0 x6_2).f2.f1) ((rd_T41 l0 x6_2).f2.f2) ((rd_T41 l0 x6_2).f2.f3) a1 t104 _ A8.out).mono ?_);rintro e w10 ⟨rfl,hb⟩;refine ⟨_,rfl, ?_⟩;have n0_:=Aside0.mk (below_step (by repeat (first | (with_reducible first | exact HB.out | apply below_alloc | apply pw_below_drewN | apply below_drew1) | exact HB.out)) hb);clear HB;have HB:=n0_;clear n0_;(try clear hb);(try clear hb2);(try clear hk);(try clear hi)))
         go_ret
         exact ⟨by first | rfl | (simp [errW_none,errW_some] <;> rfl) | (simp [*,errW_none,errW_some] <;> rfl),by repeat (first | (with_reducible first | exact HB.out | apply below_alloc | apply pw_below_drewN | apply below_drew1) | exact HB.out)⟩
        ·rw [if_neg c9] at H
         have c9b0 : decide (t104 < 0) = false:=decide_eq_false c9
         clear c9
         by_cases c11 : x5_2 < t104
         ·rw [if_pos c11] at H
          have c11b0 : decide (x5_2 < t104) = true:=decide_eq_true c11
          clear c11
          obtain rfl:=Option.some.inj H
          have p103 : 0 ≤ (x6_2 : Int):=of_decide_eq_true (by first | (with_reducible assumption) | assumption)
          have q103 : x6_2 < (l0.length : Int):=of_decide_eq_true (by first | (with_reducible assumption) | assumption)
          obtain ⟨ad103,e103,hx103_0,hx103_1,hx103_2,hx103_3,hx103_4,hx103_5⟩:=at_T41 HR0.out x6_2 p103 q103
          cases e103
          replace hx103_0:=(HB.out.cell (World.block_lt_of_cell? w _ hx103_0)).trans hx103_0
          replace hx103_1:=(HB.out.cell (World.block_lt_of_cell? w _ hx103_1)).trans hx103_1
          replace hx103_2:=(HB.out.cell (World.block_lt_of_cell? w _ hx103_2)).trans hx103_2
          replace hx103_3:=(HB.out.cell (World.block_lt_of_cell? w _ hx103_3)).trans hx103_3
          replace hx103_4:=(HB.out.cell (World.block_lt_of_cell? w _ hx103_4)).trans hx103_4
          replace hx103_5:=(HB.out.cell (World.block_lt_of_cell? w _ hx103_5)).trans hx103_5
          replace p103:=eq_true p103
          replace q103:=eq_true q103
          go_wp2_with (first | ((with_reducible refine gate_callee (f:=39) rfl ?_);refine goesL_ (some 27) rfl rfl Tryz.func39 (by kernel_rfl) rfl #[.agg #[.int .i64 ((rd_T41 l0 x6_2).f0),.int .i64 ((rd_T41 l0 x6_2).f1),.int .i64 ((rd_T41 l0 x6_2).f2.f0),.int .i64 ((rd_T41 l0 x6_2).f2.f1),.int .u64 ((rd_T41 l0 x6_2).f2.f2),.string ((rd_T41 l0 x6_2).f2.f3)],.int .i64 a1] rfl (by (try simp only [List.map_toArray,List.map_cons,List.map_nil]);first | done | rfl | (simp only [List.length_drop,List.length_take];rfl)) ?_;(with_reducible refine (freshetref05_takes.calls k2 ((rd_T41 l0 x6_2).f0) ((rd_T41 l0 x6_2).f1) ((rd_T41 l0 x6_2).f2.f0) ((rd_T41 l0 x6_2).f2.f1) ((rd_T41 l0 x6_2).f2.f2) ((rd_T41 l0 x6_2).f2.f3) a1 t104 _ A8.out).mono ?_);rintro e w12 ⟨rfl,hb⟩;refine ⟨_,rfl, ?_⟩;have n0_:=Aside0.mk (below_step (by repeat (first | (with_reducible first | exact HB.out | apply below_alloc | apply pw_below_drewN | apply below_drew1) | exact HB.out)) hb);clear HB;have HB:=n0_;clear n0_;(try clear hb);(try clear hb2);(try clear hk);(try clear hi)))
          go_ret
          exact ⟨by first | rfl | (simp [errW_none,errW_some] <;> rfl) | (simp [*,errW_none,errW_some] <;> rfl),by repeat (first | (with_reducible first | exact HB.out | apply below_alloc | apply pw_below_drewN | apply below_drew1) | exact HB.out)⟩
         ·rw [if_neg c11] at H
          have c11b0 : decide (x5_2 < t104) = false:=decide_eq_false c11
          clear c11
          have H':=Aside0.mk H
          clear H
          have p103 : 0 ≤ (x6_2 : Int):=of_decide_eq_true (by first | (with_reducible assumption) | assumption)
          have q103 : x6_2 < (l0.length : Int):=of_decide_eq_true (by first | (with_reducible assumption) | assumption)
          obtain ⟨ad103,e103,hx103_0,hx103_1,hx103_2,hx103_3,hx103_4,hx103_5⟩:=at_T41 HR0.out x6_2 p103 q103
          cases e103
          replace hx103_0:=(HB.out.cell (World.block_lt_of_cell? w _ hx103_0)).trans hx103_0
          replace hx103_1:=(HB.out.cell (World.block_lt_of_cell? w _ hx103_1)).trans hx103_1
          replace hx103_2:=(HB.out.cell (World.block_lt_of_cell? w _ hx103_2)).trans hx103_2
          replace hx103_3:=(HB.out.cell (World.block_lt_of_cell? w _ hx103_3)).trans hx103_3
          replace hx103_4:=(HB.out.cell (World.block_lt_of_cell? w _ hx103_4)).trans hx103_4
          replace hx103_5:=(HB.out.cell (World.block_lt_of_cell? w _ hx103_5)).trans hx103_5
          replace p103:=eq_true p103
          replace q103:=eq_true q103
          go_wp2_with (first | ((with_reducible refine gate_callee (f:=39) rfl ?_);refine goesL_ (some 27) rfl rfl Tryz.func39 (by kernel_rfl) rfl #[.agg #[.int .i64 ((rd_T41 l0 x6_2).f0),.int .i64 ((rd_T41 l0 x6_2).f1),.int .i64 ((rd_T41 l0 x6_2).f2.f0),.int .i64 ((rd_T41 l0 x6_2).f2.f1),.int .u64 ((rd_T41 l0 x6_2).f2.f2),.string ((rd_T41 l0 x6_2).f2.f3)],.int .i64 a1] rfl (by (try simp only [List.map_toArray,List.map_cons,List.map_nil]);first | done | rfl | (simp only [List.length_drop,List.length_take];rfl)) ?_;(with_reducible refine (freshetref05_takes.calls k2 ((rd_T41 l0 x6_2).f0) ((rd_T41 l0 x6_2).f1) ((rd_T41 l0 x6_2).f2.f0) ((rd_T41 l0 x6_2).f2.f1) ((rd_T41 l0 x6_2).f2.f2) ((rd_T41 l0 x6_2).f2.f3) a1 t104 _ A8.out).mono ?_);rintro e w13 ⟨rfl,hb⟩;refine ⟨_,rfl, ?_⟩;have n0_:=Aside0.mk (below_step (by repeat (first | (with_reducible first | exact HB.out | apply below_alloc | apply pw_below_drewN | apply below_drew1) | exact HB.out)) hb);clear HB;have HB:=n0_;clear n0_;(try clear hb);(try clear hb2);(try clear hk);(try clear hi)))
          go_roundg k2
          case measure=>have:=HJ2.out;have:=HK2.out;omega
          case rel=>exact ⟨(wrap64 ((wrap64 (x5_2 - t104)) + 1)),(wrap64 (x6_2 + 1)),(by first | rfl | (simp;done) | (simp [*];done)),(by first | rfl | (simp;done) | (simp [*];done)),H',⟨by have:=HJ2.out;have:=HK2.out;omega⟩,⟨by repeat (first | (with_reducible first | exact HB.out | apply below_alloc | apply pw_below_drewN | apply below_drew1) | exact HB.out)⟩⟩
       ·rw [if_neg c7] at H
        exact absurd H (by simp)
      ·rw [if_neg c6] at H
       have c6b0 : decide (x6_2 < (l0.length : Int)) = false:=decide_eq_false c6
       clear c6
       obtain rfl:=Option.some.inj H
       go_wp2
       go_ret
       exact ⟨by first | rfl | (simp [errW_none,errW_some] <;> rfl) | (simp [*,errW_none,errW_some] <;> rfl),by repeat (first | (with_reducible first | exact HB.out | apply below_alloc | apply pw_below_drewN | apply below_drew1) | exact HB.out)⟩
end Go.Proofs.YtakcjiinchghaaaGreatDoor.PRT
end
section
namespace Go.Proofs.YtakcjiinchghaaaGreatDoor.PRW
open Go.RowKit Go.Proofs.YtakcjiinchghaaaGreatDoorW.PrintWords Go.Proofs.YtakcjiinchghaaaGreatDoorW.PrintLast
set_option linter.unusedVariables false
set_option linter.unusedSimpArgs false
mutual
def expr_takes.j0 : Nat → Int → Bool → Int → Int → Int → Int → Int → ByteArray → Option (Int)
 | 0,_,_,_,_,_,_,_,_=>none
 | k + 1,x1,x5,x102000,x102001,x102002,x102003,x102004,x102005=>if x5 = true then (expr_takes.j1 k x5 x102000 x102001 x102002 x102003 x102004 x102005) else (if x102000 = 2 then (if x102001 ≥ 0 then (expr_takes.j1 k (decide (x102001 < x1)) x102000 x102001 x102002 x102003 x102004 x102005) else (expr_takes.j1 k false x102000 x102001 x102002 x102003 x102004 x102005)) else (expr_takes.j1 k false x102000 x102001 x102002 x102003 x102004 x102005))
def expr_takes.j1 : Nat → Bool → Int → Int → Int → Int → Int → ByteArray → Option (Int)
 | 0,_,_,_,_,_,_,_=>none
 | k + 1,x5,x102000,x102001,x102002,x102003,x102004,x102005=>if x5 = true then (some 0) else (if x102000 ≥ 3 then (expr_takes.j2 k (decide (x102000 ≤ 5)) x102000 x102001 x102002 x102003 x102004 x102005) else (expr_takes.j2 k false x102000 x102001 x102002 x102003 x102004 x102005))
def expr_takes.j2 : Nat → Bool → Int → Int → Int → Int → Int → ByteArray → Option (Int)
 | 0,_,_,_,_,_,_,_=>none
 | k + 1,x28,x102000,x102001,x102002,x102003,x102004,x102005=>if x28 = true then (expr_takes.j3 k x28 x102000 x102001 x102002 x102003 x102004 x102005) else (if x102000 = 6 then (if x102001 ≥ 1 then (expr_takes.j3 k (decide (x102001 ≤ 4)) x102000 x102001 x102002 x102003 x102004 x102005) else (expr_takes.j3 k false x102000 x102001 x102002 x102003 x102004 x102005)) else (expr_takes.j3 k false x102000 x102001 x102002 x102003 x102004 x102005))
def expr_takes.j3 : Nat → Bool → Int → Int → Int → Int → Int → ByteArray → Option (Int)
 | 0,_,_,_,_,_,_,_=>none
 | k + 1,x28,x102000,x102001,x102002,x102003,x102004,x102005=>if x28 = true then (some 1) else (if x102000 ≥ 10 then (if x102000 ≤ 24 then (some 2) else (some (-1))) else (some (-1)))
end
def expr_takes.f (k : Nat) (a0_0 : Int) (a0_1 : Int) (a0_2 : Int) (a0_3 : Int) (a0_4 : Int) (a0_5 : ByteArray) (a1 : Int) : Option (Int):=if a0_0 = 1 then ((xSound.f a0_2 a0_3 a0_4 a0_5).bind fun t102=>(expr_takes.j0 k a1 t102 a0_0 a0_1 a0_2 a0_3 a0_4 a0_5)) else (expr_takes.j0 k a1 false a0_0 a0_1 a0_2 a0_3 a0_4 a0_5)
theorem expr_takes.mono_l : ∀ k,(∀ y0 y1 y2 y3 y4 y5 y6 y7,LeO (expr_takes.j0 k y0 y1 y2 y3 y4 y5 y6 y7) (expr_takes.j0 (k + 1) y0 y1 y2 y3 y4 y5 y6 y7)) ∧ (∀ y0 y1 y2 y3 y4 y5 y6,LeO (expr_takes.j1 k y0 y1 y2 y3 y4 y5 y6) (expr_takes.j1 (k + 1) y0 y1 y2 y3 y4 y5 y6)) ∧ (∀ y0 y1 y2 y3 y4 y5 y6,LeO (expr_takes.j2 k y0 y1 y2 y3 y4 y5 y6) (expr_takes.j2 (k + 1) y0 y1 y2 y3 y4 y5 y6)) ∧ (∀ y0 y1 y2 y3 y4 y5 y6,LeO (expr_takes.j3 k y0 y1 y2 y3 y4 y5 y6) (expr_takes.j3 (k + 1) y0 y1 y2 y3 y4 y5 y6))
 | 0=>⟨fun _ _ _ _ _ _ _ _ r h=>by simp [expr_takes.j0] at h,fun _ _ _ _ _ _ _ r h=>by simp [expr_takes.j1] at h,fun _ _ _ _ _ _ _ r h=>by simp [expr_takes.j2] at h,fun _ _ _ _ _ _ _ r h=>by simp [expr_takes.j3] at h⟩
 | k + 1=>by
  obtain ⟨ih0,ih1,ih2,ih3⟩:=expr_takes.mono_l k
  refine ⟨?_, ?_, ?_, ?_⟩
  ·intro y0 y1 y2 y3 y4 y5 y6 y7
   unfold expr_takes.j0
   repeat' first
   | (with_reducible exact ih0 _ _ _ _ _ _ _ _)
   | (with_reducible exact ih1 _ _ _ _ _ _ _)
   | (with_reducible exact ih2 _ _ _ _ _ _ _)
   | (with_reducible exact ih3 _ _ _ _ _ _ _)
   | (with_reducible exact LeO.refl _)
   | (with_reducible exact LeO.none _)
   | (with_reducible refine LeO.ite ?_ ?_)
   | (with_reducible refine LeO.bind ?_ (fun _=>?_))
   | exact ih0 _ _ _ _ _ _ _ _
   | exact ih1 _ _ _ _ _ _ _
   | exact ih2 _ _ _ _ _ _ _
   | exact ih3 _ _ _ _ _ _ _
   | exact LeO.none _
   | refine LeO.ite ?_ ?_
   | refine LeO.bind ?_ (fun _=>?_)
  ·intro y0 y1 y2 y3 y4 y5 y6
   unfold expr_takes.j1
   repeat' first
   | (with_reducible exact ih0 _ _ _ _ _ _ _ _)
   | (with_reducible exact ih1 _ _ _ _ _ _ _)
   | (with_reducible exact ih2 _ _ _ _ _ _ _)
   | (with_reducible exact ih3 _ _ _ _ _ _ _)
   | (with_reducible exact LeO.refl _)
   | (with_reducible exact LeO.none _)
   | (with_reducible refine LeO.ite ?_ ?_)
   | (with_reducible refine LeO.bind ?_ (fun _=>?_))
   | exact ih0 _ _ _ _ _ _ _ _
   | exact ih1 _ _ _ _ _ _ _
   | exact ih2 _ _ _ _ _ _ _
   | exact ih3 _ _ _ _ _ _ _
   | exact LeO.none _
   | refine LeO.ite ?_ ?_
   | refine LeO.bind ?_ (fun _=>?_)
  ·intro y0 y1 y2 y3 y4 y5 y6
   unfold expr_takes.j2
   repeat' first
   | (with_reducible exact ih0 _ _ _ _ _ _ _ _)
   | (with_reducible exact ih1 _ _ _ _ _ _ _)
   | (with_reducible exact ih2 _ _ _ _ _ _ _)
   | (with_reducible exact ih3 _ _ _ _ _ _ _)
   | (with_reducible exact LeO.refl _)
   | (with_reducible exact LeO.none _)
   | (with_reducible refine LeO.ite ?_ ?_)
   | (with_reducible refine LeO.bind ?_ (fun _=>?_))
   | exact ih0 _ _ _ _ _ _ _ _
   | exact ih1 _ _ _ _ _ _ _
   | exact ih2 _ _ _ _ _ _ _
   | exact ih3 _ _ _ _ _ _ _
   | exact LeO.none _
   | refine LeO.ite ?_ ?_
   | refine LeO.bind ?_ (fun _=>?_)
  ·intro y0 y1 y2 y3 y4 y5 y6
   unfold expr_takes.j3
   repeat' first
   | (with_reducible exact ih0 _ _ _ _ _ _ _ _)
   | (with_reducible exact ih1 _ _ _ _ _ _ _)
   | (with_reducible exact ih2 _ _ _ _ _ _ _)
   | (with_reducible exact ih3 _ _ _ _ _ _ _)
   | (with_reducible exact LeO.refl _)
   | (with_reducible exact LeO.none _)
   | (with_reducible refine LeO.ite ?_ ?_)
   | (with_reducible refine LeO.bind ?_ (fun _=>?_))
   | exact ih0 _ _ _ _ _ _ _ _
   | exact ih1 _ _ _ _ _ _ _
   | exact ih2 _ _ _ _ _ _ _
   | exact ih3 _ _ _ _ _ _ _
   | exact LeO.none _
   | refine LeO.ite ?_ ?_
   | refine LeO.bind ?_ (fun _=>?_)
theorem expr_takes.mono : ∀ a0 a1 a2 a3 a4 a5 a6 k,LeO (expr_takes.f k a0 a1 a2 a3 a4 a5 a6) (expr_takes.f (k + 1) a0 a1 a2 a3 a4 a5 a6):=by
 intro a0 a1 a2 a3 a4 a5 a6 k
 obtain ⟨ih0,ih1,ih2,ih3⟩:=expr_takes.mono_l k
 unfold expr_takes.f
 repeat' first
   | (with_reducible exact ih0 _ _ _ _ _ _ _ _)
   | (with_reducible exact ih1 _ _ _ _ _ _ _)
   | (with_reducible exact ih2 _ _ _ _ _ _ _)
   | (with_reducible exact ih3 _ _ _ _ _ _ _)
   | (with_reducible exact LeO.refl _)
   | (with_reducible exact LeO.none _)
   | (with_reducible refine LeO.ite ?_ ?_)
   | (with_reducible refine LeO.bind ?_ (fun _=>?_))
   | exact ih0 _ _ _ _ _ _ _ _
   | exact ih1 _ _ _ _ _ _ _
   | exact ih2 _ _ _ _ _ _ _
   | exact ih3 _ _ _ _ _ _ _
   | exact LeO.none _
   | refine LeO.ite ?_ ?_
   | refine LeO.bind ?_ (fun _=>?_)
set_option maxHeartbeats 8000000 in
set_option maxRecDepth 100000 in
theorem expr_takes.calls (k : Nat) (a0_0 : Int) (a0_1 : Int) (a0_2 : Int) (a0_3 : Int) (a0_4 : Int) (a0_5 : ByteArray) (a1 : Int) (r : Int) (w : World) (h : expr_takes.f k a0_0 a0_1 a0_2 a0_3 a0_4 a0_5 a1 = some r) :
  Calls Tryz.prog 43 #[.agg #[.int .i64 a0_0,.int .i64 a0_1,.int .i64 a0_2,.int .i64 a0_3,.int .u64 a0_4,.string a0_5],.int .i64 a1] w fun e w'=>e = .returned (.int .i64 r) ∧ Below w.heap.size w w':=by
 have hu41:=Tryz.underlying41
 have hu29:=Tryz.underlying29
 have HB:=Aside0.mk (Below.refl w.heap.size w)
 have H : (if a0_0 = 1 then ((xSound.f a0_2 a0_3 a0_4 a0_5).bind fun t102=>(expr_takes.j0 k a1 t102 a0_0 a0_1 a0_2 a0_3 a0_4 a0_5)) else (expr_takes.j0 k a1 false a0_0 a0_1 a0_2 a0_3 a0_4 a0_5)) = some r:=h
 clear h
 have HC3:=Aside0.mk H
 clear H
 go_enter Tryz.func43,Tryz.ntmps43
 go_upto_region 1 with (first | ((with_reducible refine gate_dst (N:=2) rfl ?_);refine box_event ?hg (N:=2) ?hd (cs:=#[.int .i64 a0_0,.int .i64 a0_1,.int .i64 a0_2,.int .i64 a0_3,.int .u64 a0_4,.string a0_5]) (t:=41) ?hr ?_;(case hd=>rfl);(case hg=>rfl);(case hr=>first | (go_simp;done) | (go_simp;rfl));intro gb101 hg w4 hbox hb;have n0_:=Aside0.mk (below_step (by repeat (first | (with_reducible first | exact HB.out | apply below_alloc | apply pw_below_drewN | apply below_drew1) | exact HB.out)) hb);have n1_:=Aside0.mk (hbox);have n2_:=Aside0.mk ((by rw [hg];exact (below_size (by repeat (first | (with_reducible first | exact HB.out | apply below_alloc | apply pw_below_drewN | apply below_drew1) | exact HB.out))) : w.heap.size ≤ gb101));have n3_:=Aside0.mk ((by rw [hg];exact (below_size (by repeat (first | (with_reducible first | exact HB.out | apply below_alloc | apply pw_below_drewN | apply below_drew1) | exact HB.out))) : w.heap.size ≤ gb101));clear HB;have HB:=n0_;have BK101:=n1_;have GW101:=n2_;have GE101:=n3_;clear n0_ n1_ n2_ n3_;clear hb hbox hg))
 (try simp only [Act.put,List.setIfInBounds_toArray,List.set_cons_zero,List.set_cons_succ])
 go_cut [5] (fun v5 wc=>∃ (kq : Nat) (x5_2 : Bool),v5 = .bool x5_2 ∧ Aside0 (expr_takes.j0 kq a1 x5_2 a0_0 a0_1 a0_2 a0_3 a0_4 a0_5 = some r) ∧ Aside0 (kq ≤ k) ∧ Aside0 (wc.heap[gb101]? = some (.cells #[.int .i64 a0_0,.int .i64 a0_1,.int .i64 a0_2,.int .i64 a0_3,.int .u64 a0_4,.string a0_5] 41 (0,0))) ∧ Aside0 (Below w.heap.size w wc))
 case first =>
  have H:=HC3.out
  clear HC3
  by_cases c5 : a0_0 = 1
  ·rw [if_pos c5] at H
   have c5b0 : (a0_0 == 1) = true:=beq_iff_eq.mpr c5
   have c5b1 : (a0_0 != 1) = false:=bne_eq_false_iff_eq.mpr c5
   clear c5
   (first | rw [c5b0] | (simp only [i64_w,i32_w];rw [c5b0]) | skip)
   replace H:=Option.bind_eq_some_iff.mp H
   obtain ⟨t102,A60,H⟩:=H
   replace H : (expr_takes.j0 k a1 t102 a0_0 a0_1 a0_2 a0_3 a0_4 a0_5) = some r:=H
   have A6:=Aside0.mk A60
   clear A60
   have H':=Aside0.mk H
   clear H
   have hcz7_0 : w4.cell? ⟨gb101,0,none⟩ = some (.int .i64 a0_0):=(blk_cell BK101.out 0).trans rfl
   have hcz7_1 : w4.cell? ⟨gb101,1,none⟩ = some (.int .i64 a0_1):=(blk_cell BK101.out 1).trans rfl
   have hcz7_2 : w4.cell? ⟨gb101,2,none⟩ = some (.int .i64 a0_2):=(blk_cell BK101.out 2).trans rfl
   have hcz7_3 : w4.cell? ⟨gb101,3,none⟩ = some (.int .i64 a0_3):=(blk_cell BK101.out 3).trans rfl
   have hcz7_4 : w4.cell? ⟨gb101,4,none⟩ = some (.int .u64 a0_4):=(blk_cell BK101.out 4).trans rfl
   have hcz7_5 : w4.cell? ⟨gb101,5,none⟩ = some (.string a0_5):=(blk_cell BK101.out 5).trans rfl
   have hfz7_0:=blk_frozen BK101.out 0
   have hfz7_1:=blk_frozen BK101.out 1
   have hfz7_2:=blk_frozen BK101.out 2
   have hfz7_3:=blk_frozen BK101.out 3
   have hfz7_4:=blk_frozen BK101.out 4
   have hfz7_5:=blk_frozen BK101.out 5
   go_wp2_with (first | (go_at_call 28;(with_reducible refine (xSound.calls a0_2 a0_3 a0_4 a0_5 t102 _ A6.out).mono ?_);rintro e w8 ⟨rfl,hb⟩;have n0_:=Aside0.mk (blk_below (g:=gb101) (o:=.cells #[.int .i64 a0_0,.int .i64 a0_1,.int .i64 a0_2,.int .i64 a0_3,.int .u64 a0_4,.string a0_5] 41 (0,0)) (by (with_reducible repeat (first | refine blk_drewN ?_ _ | refine blk_drew ?_ | refine blk_alloc ?_ _));exact BK101.out) hb);have n1_:=Aside0.mk (below_step (by repeat (first | (with_reducible first | exact HB.out | apply below_alloc | apply pw_below_drewN | apply below_drew1 | refine below_set ?_ GE101.out) | exact HB.out)) hb);clear BK101;clear HB;have BK101:=n0_;have HB:=n1_;clear n0_ n1_;(try clear hb);(try clear hb2);(try clear hk);(try clear hi)))
   go_meet
   case rel=>exact ⟨_,(t102),(by first | rfl | (simp;done) | (simp [*];done)),H',⟨by first | omega | exact Nat.le_refl _⟩,⟨by (with_reducible repeat (first | refine blk_drewN ?_ _ | refine blk_drew ?_ | refine blk_alloc ?_ _));exact BK101.out⟩,⟨by repeat (first | (with_reducible first | exact HB.out | apply below_alloc | apply pw_below_drewN | apply below_drew1 | refine below_set ?_ GE101.out) | exact HB.out)⟩⟩
  ·rw [if_neg c5] at H
   have c5b0 : (a0_0 == 1) = false:=beq_eq_false_iff_ne.mpr c5
   have c5b1 : (a0_0 != 1) = true:=bne_iff_ne.mpr c5
   (first | rw [c5b0] | (simp only [i64_w,i32_w];rw [c5b0]) | skip)
   have H':=Aside0.mk H
   clear H
   have hcz9_0 : w4.cell? ⟨gb101,0,none⟩ = some (.int .i64 a0_0):=(blk_cell BK101.out 0).trans rfl
   have hcz9_1 : w4.cell? ⟨gb101,1,none⟩ = some (.int .i64 a0_1):=(blk_cell BK101.out 1).trans rfl
   have hcz9_2 : w4.cell? ⟨gb101,2,none⟩ = some (.int .i64 a0_2):=(blk_cell BK101.out 2).trans rfl
   have hcz9_3 : w4.cell? ⟨gb101,3,none⟩ = some (.int .i64 a0_3):=(blk_cell BK101.out 3).trans rfl
   have hcz9_4 : w4.cell? ⟨gb101,4,none⟩ = some (.int .u64 a0_4):=(blk_cell BK101.out 4).trans rfl
   have hcz9_5 : w4.cell? ⟨gb101,5,none⟩ = some (.string a0_5):=(blk_cell BK101.out 5).trans rfl
   have hfz9_0:=blk_frozen BK101.out 0
   have hfz9_1:=blk_frozen BK101.out 1
   have hfz9_2:=blk_frozen BK101.out 2
   have hfz9_3:=blk_frozen BK101.out 3
   have hfz9_4:=blk_frozen BK101.out 4
   have hfz9_5:=blk_frozen BK101.out 5
   go_wp2
   go_meet
   case rel=>exact ⟨_,(false),(by first | rfl | (simp;done) | (simp [*];done)),H',⟨by first | omega | exact Nat.le_refl _⟩,⟨by (with_reducible repeat (first | refine blk_drewN ?_ _ | refine blk_drew ?_ | refine blk_alloc ?_ _));exact BK101.out⟩,⟨by repeat (first | (with_reducible first | exact HB.out | apply below_alloc | apply pw_below_drewN | apply below_drew1 | refine below_set ?_ GE101.out) | exact HB.out)⟩⟩
 case rest =>
  clear HC3
  try clear p2
  try clear c4
  try clear c5
  try clear c5b0
  try clear c5b1
  try clear hcz7_0
  try clear hcz7_1
  try clear hcz7_2
  try clear hcz7_3
  try clear hcz7_4
  try clear hcz7_5
  try clear hcz9_0
  try clear hcz9_1
  try clear hcz9_2
  try clear hcz9_3
  try clear hcz9_4
  try clear hcz9_5
  try clear hfz7_0
  try clear hfz7_1
  try clear hfz7_2
  try clear hfz7_3
  try clear hfz7_4
  try clear hfz7_5
  try clear hfz9_0
  try clear hfz9_1
  try clear hfz9_2
  try clear hfz9_3
  try clear hfz9_4
  try clear hfz9_5
  obtain ⟨kq,x5_2,rfl,HA,HJ2,BK101,HB⟩:=hcut
  cases kq with
  | zero=>exact absurd HA.out (by simp [expr_takes.j0])
  | succ kj2 =>
   have H:=HA.out
   clear HA
   simp only [expr_takes.j0] at H
   have HC10:=Aside0.mk H
   clear H
   go_upto_if 5 with (fail)
   go_cut [5] (fun v5 wc=>∃ (kq : Nat) (x5_9 : Bool),v5 = .bool x5_9 ∧ Aside0 (expr_takes.j1 kq x5_9 a0_0 a0_1 a0_2 a0_3 a0_4 a0_5 = some r) ∧ Aside0 (kq ≤ kj2) ∧ Aside0 (wc.heap[gb101]? = some (.cells #[.int .i64 a0_0,.int .i64 a0_1,.int .i64 a0_2,.int .i64 a0_3,.int .u64 a0_4,.string a0_5] 41 (0,0))) ∧ Aside0 (Below w.heap.size w wc))
   case first =>
    have H:=HC10.out
    clear HC10
    by_cases c11 : x5_2 = true
    ·subst c11
     have H1 : (expr_takes.j1 kj2 true a0_0 a0_1 a0_2 a0_3 a0_4 a0_5) = some r:=by rw [if_pos rfl] at H;exact H
     clear H
     have H:=H1
     clear H1
     have H':=Aside0.mk H
     clear H
     go_wp2
     go_meet
     case rel=>exact ⟨_,(true),(by first | rfl | (simp;done) | (simp [*];done)),H',⟨by have:=HJ2.out;first | omega | exact Nat.le_refl _⟩,⟨by (with_reducible repeat (first | refine blk_drewN ?_ _ | refine blk_drew ?_ | refine blk_alloc ?_ _));exact BK101.out⟩,⟨by repeat (first | (with_reducible first | exact HB.out | apply below_alloc | apply pw_below_drewN | apply below_drew1 | refine below_set ?_ GE101.out) | exact HB.out)⟩⟩
    ·replace c11:=Bool.eq_false_iff.mpr c11
     subst c11
     have H1 : (if a0_0 = 2 then (if a0_1 ≥ 0 then (expr_takes.j1 kj2 (decide (a0_1 < a1)) a0_0 a0_1 a0_2 a0_3 a0_4 a0_5) else (expr_takes.j1 kj2 false a0_0 a0_1 a0_2 a0_3 a0_4 a0_5)) else (expr_takes.j1 kj2 false a0_0 a0_1 a0_2 a0_3 a0_4 a0_5)) = some r:=by rw [if_neg (show ¬ (false = true) by decide)] at H;exact H
     clear H
     have H:=H1
     clear H1
     by_cases c12 : a0_0 = 2
     ·rw [if_pos c12] at H
      have c12b0 : (a0_0 == 2) = true:=beq_iff_eq.mpr c12
      have c12b1 : (a0_0 != 2) = false:=bne_eq_false_iff_eq.mpr c12
      clear c12
      (first | rw [c12b0] | (simp only [i64_w,i32_w];rw [c12b0]) | skip)
      by_cases c13 : a0_1 ≥ 0
      ·rw [if_pos c13] at H
       have c13b0 : decide (0 ≤ a0_1) = true:=decide_eq_true c13
       clear c13
       have H':=Aside0.mk H
       clear H
       have hcz14_0 : wc.cell? ⟨gb101,0,none⟩ = some (.int .i64 a0_0):=(blk_cell BK101.out 0).trans rfl
       have hcz14_1 : wc.cell? ⟨gb101,1,none⟩ = some (.int .i64 a0_1):=(blk_cell BK101.out 1).trans rfl
       have hcz14_2 : wc.cell? ⟨gb101,2,none⟩ = some (.int .i64 a0_2):=(blk_cell BK101.out 2).trans rfl
       have hcz14_3 : wc.cell? ⟨gb101,3,none⟩ = some (.int .i64 a0_3):=(blk_cell BK101.out 3).trans rfl
       have hcz14_4 : wc.cell? ⟨gb101,4,none⟩ = some (.int .u64 a0_4):=(blk_cell BK101.out 4).trans rfl
       have hcz14_5 : wc.cell? ⟨gb101,5,none⟩ = some (.string a0_5):=(blk_cell BK101.out 5).trans rfl
       have hfz14_0:=blk_frozen BK101.out 0
       have hfz14_1:=blk_frozen BK101.out 1
       have hfz14_2:=blk_frozen BK101.out 2
       have hfz14_3:=blk_frozen BK101.out 3
       have hfz14_4:=blk_frozen BK101.out 4
       have hfz14_5:=blk_frozen BK101.out 5
       go_wp2
       go_meet
       case rel=>exact ⟨_,(decide (a0_1 < a1)),(by first | rfl | (simp;done) | (simp [*];done)),H',⟨by have:=HJ2.out;first | omega | exact Nat.le_refl _⟩,⟨by (with_reducible repeat (first | refine blk_drewN ?_ _ | refine blk_drew ?_ | refine blk_alloc ?_ _));exact BK101.out⟩,⟨by repeat (first | (with_reducible first | exact HB.out | apply below_alloc | apply pw_below_drewN | apply below_drew1 | refine below_set ?_ GE101.out) | exact HB.out)⟩⟩
      ·rw [if_neg c13] at H
       have c13b0 : decide (0 ≤ a0_1) = false:=decide_eq_false c13
       clear c13
       have H':=Aside0.mk H
       clear H
       have hcz15_0 : wc.cell? ⟨gb101,0,none⟩ = some (.int .i64 a0_0):=(blk_cell BK101.out 0).trans rfl
       have hcz15_1 : wc.cell? ⟨gb101,1,none⟩ = some (.int .i64 a0_1):=(blk_cell BK101.out 1).trans rfl
       have hcz15_2 : wc.cell? ⟨gb101,2,none⟩ = some (.int .i64 a0_2):=(blk_cell BK101.out 2).trans rfl
       have hcz15_3 : wc.cell? ⟨gb101,3,none⟩ = some (.int .i64 a0_3):=(blk_cell BK101.out 3).trans rfl
       have hcz15_4 : wc.cell? ⟨gb101,4,none⟩ = some (.int .u64 a0_4):=(blk_cell BK101.out 4).trans rfl
       have hcz15_5 : wc.cell? ⟨gb101,5,none⟩ = some (.string a0_5):=(blk_cell BK101.out 5).trans rfl
       have hfz15_0:=blk_frozen BK101.out 0
       have hfz15_1:=blk_frozen BK101.out 1
       have hfz15_2:=blk_frozen BK101.out 2
       have hfz15_3:=blk_frozen BK101.out 3
       have hfz15_4:=blk_frozen BK101.out 4
       have hfz15_5:=blk_frozen BK101.out 5
       go_wp2
       go_meet
       case rel=>exact ⟨_,(false),(by first | rfl | (simp;done) | (simp [*];done)),H',⟨by have:=HJ2.out;first | omega | exact Nat.le_refl _⟩,⟨by (with_reducible repeat (first | refine blk_drewN ?_ _ | refine blk_drew ?_ | refine blk_alloc ?_ _));exact BK101.out⟩,⟨by repeat (first | (with_reducible first | exact HB.out | apply below_alloc | apply pw_below_drewN | apply below_drew1 | refine below_set ?_ GE101.out) | exact HB.out)⟩⟩
     ·rw [if_neg c12] at H
      have c12b0 : (a0_0 == 2) = false:=beq_eq_false_iff_ne.mpr c12
      have c12b1 : (a0_0 != 2) = true:=bne_iff_ne.mpr c12
      (first | rw [c12b0] | (simp only [i64_w,i32_w];rw [c12b0]) | skip)
      have H':=Aside0.mk H
      clear H
      have hcz16_0 : wc.cell? ⟨gb101,0,none⟩ = some (.int .i64 a0_0):=(blk_cell BK101.out 0).trans rfl
      have hcz16_1 : wc.cell? ⟨gb101,1,none⟩ = some (.int .i64 a0_1):=(blk_cell BK101.out 1).trans rfl
      have hcz16_2 : wc.cell? ⟨gb101,2,none⟩ = some (.int .i64 a0_2):=(blk_cell BK101.out 2).trans rfl
      have hcz16_3 : wc.cell? ⟨gb101,3,none⟩ = some (.int .i64 a0_3):=(blk_cell BK101.out 3).trans rfl
      have hcz16_4 : wc.cell? ⟨gb101,4,none⟩ = some (.int .u64 a0_4):=(blk_cell BK101.out 4).trans rfl
      have hcz16_5 : wc.cell? ⟨gb101,5,none⟩ = some (.string a0_5):=(blk_cell BK101.out 5).trans rfl
      have hfz16_0:=blk_frozen BK101.out 0
      have hfz16_1:=blk_frozen BK101.out 1
      have hfz16_2:=blk_frozen BK101.out 2
      have hfz16_3:=blk_frozen BK101.out 3
      have hfz16_4:=blk_frozen BK101.out 4
      have hfz16_5:=blk_frozen BK101.out 5
      go_wp2
      go_meet
      case rel=>exact ⟨_,(false),(by first | rfl | (simp;done) | (simp [*];done)),H',⟨by have:=HJ2.out;first | omega | exact Nat.le_refl _⟩,⟨by (with_reducible repeat (first | refine blk_drewN ?_ _ | refine blk_drew ?_ | refine blk_alloc ?_ _));exact BK101.out⟩,⟨by repeat (first | (with_reducible first | exact HB.out | apply below_alloc | apply pw_below_drewN | apply below_drew1 | refine below_set ?_ GE101.out) | exact HB.out)⟩⟩
   case rest =>
    clear HC10
    try clear c1
    try clear p2
    try clear c4
    try clear c5
    try clear c5b0
    try clear c5b1
    try clear c11
    try clear c12
    try clear c12b0
    try clear c12b1
    try clear c13
    try clear c13b0
    try clear hcz14_0
    try clear hcz14_1
    try clear hcz14_2
    try clear hcz14_3
    try clear hcz14_4
    try clear hcz14_5
    try clear hcz15_0
    try clear hcz15_1
    try clear hcz15_2
    try clear hcz15_3
    try clear hcz15_4
    try clear hcz15_5
    try clear hcz16_0
    try clear hcz16_1
    try clear hcz16_2
    try clear hcz16_3
    try clear hcz16_4
    try clear hcz16_5
    try clear hcz7_0
    try clear hcz7_1
    try clear hcz7_2
    try clear hcz7_3
    try clear hcz7_4
    try clear hcz7_5
    try clear hcz9_0
    try clear hcz9_1
    try clear hcz9_2
    try clear hcz9_3
    try clear hcz9_4
    try clear hcz9_5
    try clear hfz14_0
    try clear hfz14_1
    try clear hfz14_2
    try clear hfz14_3
    try clear hfz14_4
    try clear hfz14_5
    try clear hfz15_0
    try clear hfz15_1
    try clear hfz15_2
    try clear hfz15_3
    try clear hfz15_4
    try clear hfz15_5
    try clear hfz16_0
    try clear hfz16_1
    try clear hfz16_2
    try clear hfz16_3
    try clear hfz16_4
    try clear hfz16_5
    try clear hfz7_0
    try clear hfz7_1
    try clear hfz7_2
    try clear hfz7_3
    try clear hfz7_4
    try clear hfz7_5
    try clear hfz9_0
    try clear hfz9_1
    try clear hfz9_2
    try clear hfz9_3
    try clear hfz9_4
    try clear hfz9_5
    try clear p2
    obtain ⟨kq,x5_9,rfl,HA,HJ9,BK101,HB⟩:=hcut
    cases kq with
    | zero=>exact absurd HA.out (by simp [expr_takes.j1])
    | succ kj9 =>
     have H:=HA.out
     clear HA
     simp only [expr_takes.j1] at H
     by_cases c17 : x5_9 = true
     ·subst c17
      have H1 : (some 0) = some r:=by rw [if_pos rfl] at H;exact H
      clear H
      have H:=H1
      clear H1
      obtain rfl:=Option.some.inj H
      go_wp2
      go_ret
      exact ⟨by first | rfl | (simp [errW_none,errW_some] <;> rfl) | (simp [*,errW_none,errW_some] <;> rfl),by repeat (first | (with_reducible first | exact HB.out | apply below_alloc | apply pw_below_drewN | apply below_drew1 | refine below_set ?_ GE101.out) | exact HB.out)⟩
     ·replace c17:=Bool.eq_false_iff.mpr c17
      subst c17
      have H1 : (if a0_0 ≥ 3 then (expr_takes.j2 kj9 (decide (a0_0 ≤ 5)) a0_0 a0_1 a0_2 a0_3 a0_4 a0_5) else (expr_takes.j2 kj9 false a0_0 a0_1 a0_2 a0_3 a0_4 a0_5)) = some r:=by rw [if_neg (show ¬ (false = true) by decide)] at H;exact H
      clear H
      have H:=H1
      clear H1
      have HC18:=Aside0.mk H
      clear H
      go_upto_region 4 with (fail)
      go_cut [28] (fun v28 wc=>∃ (kq : Nat) (x28_17 : Bool),v28 = .bool x28_17 ∧ Aside0 (expr_takes.j2 kq x28_17 a0_0 a0_1 a0_2 a0_3 a0_4 a0_5 = some r) ∧ Aside0 (kq ≤ kj9) ∧ Aside0 (wc.heap[gb101]? = some (.cells #[.int .i64 a0_0,.int .i64 a0_1,.int .i64 a0_2,.int .i64 a0_3,.int .u64 a0_4,.string a0_5] 41 (0,0))) ∧ Aside0 (Below w.heap.size w wc))
      case first =>
       have H:=HC18.out
       clear HC18
       by_cases c19 : a0_0 ≥ 3
       ·rw [if_pos c19] at H
        have c19b0 : decide (3 ≤ a0_0) = true:=decide_eq_true c19
        clear c19
        (first | rw [c19b0] | (simp only [i64_w,i32_w];rw [c19b0]) | skip)
        have H':=Aside0.mk H
        clear H
        have hcz20_0 : wc.cell? ⟨gb101,0,none⟩ = some (.int .i64 a0_0):=(blk_cell BK101.out 0).trans rfl
        have hcz20_1 : wc.cell? ⟨gb101,1,none⟩ = some (.int .i64 a0_1):=(blk_cell BK101.out 1).trans rfl
        have hcz20_2 : wc.cell? ⟨gb101,2,none⟩ = some (.int .i64 a0_2):=(blk_cell BK101.out 2).trans rfl
        have hcz20_3 : wc.cell? ⟨gb101,3,none⟩ = some (.int .i64 a0_3):=(blk_cell BK101.out 3).trans rfl
        have hcz20_4 : wc.cell? ⟨gb101,4,none⟩ = some (.int .u64 a0_4):=(blk_cell BK101.out 4).trans rfl
        have hcz20_5 : wc.cell? ⟨gb101,5,none⟩ = some (.string a0_5):=(blk_cell BK101.out 5).trans rfl
        have hfz20_0:=blk_frozen BK101.out 0
        have hfz20_1:=blk_frozen BK101.out 1
        have hfz20_2:=blk_frozen BK101.out 2
        have hfz20_3:=blk_frozen BK101.out 3
        have hfz20_4:=blk_frozen BK101.out 4
        have hfz20_5:=blk_frozen BK101.out 5
        go_wp2
        go_meet
        case rel=>exact ⟨_,(decide (a0_0 ≤ 5)),(by first | rfl | (simp;done) | (simp [*];done)),H',⟨by have:=HJ2.out;have:=HJ9.out;first | omega | exact Nat.le_refl _⟩,⟨by (with_reducible repeat (first | refine blk_drewN ?_ _ | refine blk_drew ?_ | refine blk_alloc ?_ _));exact BK101.out⟩,⟨by repeat (first | (with_reducible first | exact HB.out | apply below_alloc | apply pw_below_drewN | apply below_drew1 | refine below_set ?_ GE101.out) | exact HB.out)⟩⟩
       ·rw [if_neg c19] at H
        have c19b0 : decide (3 ≤ a0_0) = false:=decide_eq_false c19
        clear c19
        (first | rw [c19b0] | (simp only [i64_w,i32_w];rw [c19b0]) | skip)
        have H':=Aside0.mk H
        clear H
        have hcz21_0 : wc.cell? ⟨gb101,0,none⟩ = some (.int .i64 a0_0):=(blk_cell BK101.out 0).trans rfl
        have hcz21_1 : wc.cell? ⟨gb101,1,none⟩ = some (.int .i64 a0_1):=(blk_cell BK101.out 1).trans rfl
        have hcz21_2 : wc.cell? ⟨gb101,2,none⟩ = some (.int .i64 a0_2):=(blk_cell BK101.out 2).trans rfl
        have hcz21_3 : wc.cell? ⟨gb101,3,none⟩ = some (.int .i64 a0_3):=(blk_cell BK101.out 3).trans rfl
        have hcz21_4 : wc.cell? ⟨gb101,4,none⟩ = some (.int .u64 a0_4):=(blk_cell BK101.out 4).trans rfl
        have hcz21_5 : wc.cell? ⟨gb101,5,none⟩ = some (.string a0_5):=(blk_cell BK101.out 5).trans rfl
        have hfz21_0:=blk_frozen BK101.out 0
        have hfz21_1:=blk_frozen BK101.out 1
        have hfz21_2:=blk_frozen BK101.out 2
        have hfz21_3:=blk_frozen BK101.out 3
        have hfz21_4:=blk_frozen BK101.out 4
        have hfz21_5:=blk_frozen BK101.out 5
        go_wp2
        go_meet
        case rel=>exact ⟨_,(false),(by first | rfl | (simp;done) | (simp [*];done)),H',⟨by have:=HJ2.out;have:=HJ9.out;first | omega | exact Nat.le_refl _⟩,⟨by (with_reducible repeat (first | refine blk_drewN ?_ _ | refine blk_drew ?_ | refine blk_alloc ?_ _));exact BK101.out⟩,⟨by repeat (first | (with_reducible first | exact HB.out | apply below_alloc | apply pw_below_drewN | apply below_drew1 | refine below_set ?_ GE101.out) | exact HB.out)⟩⟩
      case rest =>
       clear HC18
       try clear c1
       try clear p2
       try clear c4
       try clear c5
       try clear c5b0
       try clear c5b1
       try clear c11
       try clear c12
       try clear c12b0
       try clear c12b1
       try clear c13
       try clear c13b0
       try clear c17
       try clear c19
       try clear c19b0
       try clear hcz14_0
       try clear hcz14_1
       try clear hcz14_2
       try clear hcz14_3
       try clear hcz14_4
       try clear hcz14_5
       try clear hcz15_0
       try clear hcz15_1
       try clear hcz15_2
       try clear hcz15_3
       try clear hcz15_4
       try clear hcz15_5
       try clear hcz16_0
       try clear hcz16_1
       try clear hcz16_2
       try clear hcz16_3
       try clear hcz16_4
       try clear hcz16_5
       try clear hcz20_0
       try clear hcz20_1
       try clear hcz20_2
       try clear hcz20_3
       try clear hcz20_4
       try clear hcz20_5
       try clear hcz21_0
       try clear hcz21_1
       try clear hcz21_2
       try clear hcz21_3
       try clear hcz21_4
       try clear hcz21_5
       try clear hcz7_0
       try clear hcz7_1
       try clear hcz7_2
       try clear hcz7_3
       try clear hcz7_4
       try clear hcz7_5
       try clear hcz9_0
       try clear hcz9_1
       try clear hcz9_2
       try clear hcz9_3
       try clear hcz9_4
       try clear hcz9_5
       try clear hfz14_0
       try clear hfz14_1
       try clear hfz14_2
       try clear hfz14_3
       try clear hfz14_4
       try clear hfz14_5
       try clear hfz15_0
       try clear hfz15_1
       try clear hfz15_2
       try clear hfz15_3
       try clear hfz15_4
       try clear hfz15_5
       try clear hfz16_0
       try clear hfz16_1
       try clear hfz16_2
       try clear hfz16_3
       try clear hfz16_4
       try clear hfz16_5
       try clear hfz20_0
       try clear hfz20_1
       try clear hfz20_2
       try clear hfz20_3
       try clear hfz20_4
       try clear hfz20_5
       try clear hfz21_0
       try clear hfz21_1
       try clear hfz21_2
       try clear hfz21_3
       try clear hfz21_4
       try clear hfz21_5
       try clear hfz7_0
       try clear hfz7_1
       try clear hfz7_2
       try clear hfz7_3
       try clear hfz7_4
       try clear hfz7_5
       try clear hfz9_0
       try clear hfz9_1
       try clear hfz9_2
       try clear hfz9_3
       try clear hfz9_4
       try clear hfz9_5
       try clear p2
       obtain ⟨kq,x28_17,rfl,HA,HJ17,BK101,HB⟩:=hcut
       cases kq with
       | zero=>exact absurd HA.out (by simp [expr_takes.j2])
       | succ kj17 =>
        have H:=HA.out
        clear HA
        simp only [expr_takes.j2] at H
        have HC22:=Aside0.mk H
        clear H
        go_upto_if 28 with (fail)
        go_cut [28] (fun v28 wc=>∃ (kq : Nat) (x28_21 : Bool),v28 = .bool x28_21 ∧ Aside0 (expr_takes.j3 kq x28_21 a0_0 a0_1 a0_2 a0_3 a0_4 a0_5 = some r) ∧ Aside0 (kq ≤ kj17) ∧ Aside0 (wc.heap[gb101]? = some (.cells #[.int .i64 a0_0,.int .i64 a0_1,.int .i64 a0_2,.int .i64 a0_3,.int .u64 a0_4,.string a0_5] 41 (0,0))) ∧ Aside0 (Below w.heap.size w wc))
        case first =>
         have H:=HC22.out
         clear HC22
         by_cases c23 : x28_17 = true
         ·subst c23
          have H1 : (expr_takes.j3 kj17 true a0_0 a0_1 a0_2 a0_3 a0_4 a0_5) = some r:=by rw [if_pos rfl] at H;exact H
          clear H
          have H:=H1
          clear H1
          have H':=Aside0.mk H
          clear H
          go_wp2
          go_meet
          case rel=>exact ⟨_,(true),(by first | rfl | (simp;done) | (simp [*];done)),H',⟨by have:=HJ2.out;have:=HJ9.out;have:=HJ17.out;first | omega | exact Nat.le_refl _⟩,⟨by (with_reducible repeat (first | refine blk_drewN ?_ _ | refine blk_drew ?_ | refine blk_alloc ?_ _));exact BK101.out⟩,⟨by repeat (first | (with_reducible first | exact HB.out | apply below_alloc | apply pw_below_drewN | apply below_drew1 | refine below_set ?_ GE101.out) | exact HB.out)⟩⟩
         ·replace c23:=Bool.eq_false_iff.mpr c23
          subst c23
          have H1 : (if a0_0 = 6 then (if a0_1 ≥ 1 then (expr_takes.j3 kj17 (decide (a0_1 ≤ 4)) a0_0 a0_1 a0_2 a0_3 a0_4 a0_5) else (expr_takes.j3 kj17 false a0_0 a0_1 a0_2 a0_3 a0_4 a0_5)) else (expr_takes.j3 kj17 false a0_0 a0_1 a0_2 a0_3 a0_4 a0_5)) = some r:=by rw [if_neg (show ¬ (false = true) by decide)] at H;exact H
          clear H
          have H:=H1
          clear H1
          by_cases c24 : a0_0 = 6
          ·rw [if_pos c24] at H
           have c24b0 : (a0_0 == 6) = true:=beq_iff_eq.mpr c24
           have c24b1 : (a0_0 != 6) = false:=bne_eq_false_iff_eq.mpr c24
           clear c24
           (first | rw [c24b0] | (simp only [i64_w,i32_w];rw [c24b0]) | skip)
           by_cases c25 : a0_1 ≥ 1
           ·rw [if_pos c25] at H
            have c25b0 : decide (1 ≤ a0_1) = true:=decide_eq_true c25
            clear c25
            have H':=Aside0.mk H
            clear H
            have hcz26_0 : wc.cell? ⟨gb101,0,none⟩ = some (.int .i64 a0_0):=(blk_cell BK101.out 0).trans rfl
            have hcz26_1 : wc.cell? ⟨gb101,1,none⟩ = some (.int .i64 a0_1):=(blk_cell BK101.out 1).trans rfl
            have hcz26_2 : wc.cell? ⟨gb101,2,none⟩ = some (.int .i64 a0_2):=(blk_cell BK101.out 2).trans rfl
            have hcz26_3 : wc.cell? ⟨gb101,3,none⟩ = some (.int .i64 a0_3):=(blk_cell BK101.out 3).trans rfl
            have hcz26_4 : wc.cell? ⟨gb101,4,none⟩ = some (.int .u64 a0_4):=(blk_cell BK101.out 4).trans rfl
            have hcz26_5 : wc.cell? ⟨gb101,5,none⟩ = some (.string a0_5):=(blk_cell BK101.out 5).trans rfl
            have hfz26_0:=blk_frozen BK101.out 0
            have hfz26_1:=blk_frozen BK101.out 1
            have hfz26_2:=blk_frozen BK101.out 2
            have hfz26_3:=blk_frozen BK101.out 3
            have hfz26_4:=blk_frozen BK101.out 4
            have hfz26_5:=blk_frozen BK101.out 5
            go_wp2
            go_meet
            case rel=>exact ⟨_,(decide (a0_1 ≤ 4)),(by first | rfl | (simp;done) | (simp [*];done)),H',⟨by have:=HJ2.out;have:=HJ9.out;have:=HJ17.out;first | omega | exact Nat.le_refl _⟩,⟨by (with_reducible repeat (first | refine blk_drewN ?_ _ | refine blk_drew ?_ | refine blk_alloc ?_ _));exact BK101.out⟩,⟨by repeat (first | (with_reducible first | exact HB.out | apply below_alloc | apply pw_below_drewN | apply below_drew1 | refine below_set ?_ GE101.out) | exact HB.out)⟩⟩
           ·rw [if_neg c25] at H
            have c25b0 : decide (1 ≤ a0_1) = false:=decide_eq_false c25
            clear c25
            have H':=Aside0.mk H
            clear H
            have hcz27_0 : wc.cell? ⟨gb101,0,none⟩ = some (.int .i64 a0_0):=(blk_cell BK101.out 0).trans rfl
            have hcz27_1 : wc.cell? ⟨gb101,1,none⟩ = some (.int .i64 a0_1):=(blk_cell BK101.out 1).trans rfl
            have hcz27_2 : wc.cell? ⟨gb101,2,none⟩ = some (.int .i64 a0_2):=(blk_cell BK101.out 2).trans rfl
            have hcz27_3 : wc.cell? ⟨gb101,3,none⟩ = some (.int .i64 a0_3):=(blk_cell BK101.out 3).trans rfl
            have hcz27_4 : wc.cell? ⟨gb101,4,none⟩ = some (.int .u64 a0_4):=(blk_cell BK101.out 4).trans rfl
            have hcz27_5 : wc.cell? ⟨gb101,5,none⟩ = some (.string a0_5):=(blk_cell BK101.out 5).trans rfl
            have hfz27_0:=blk_frozen BK101.out 0
            have hfz27_1:=blk_frozen BK101.out 1
            have hfz27_2:=blk_frozen BK101.out 2
            have hfz27_3:=blk_frozen BK101.out 3
            have hfz27_4:=blk_frozen BK101.out 4
            have hfz27_5:=blk_frozen BK101.out 5
            go_wp2
            go_meet
            case rel=>exact ⟨_,(false),(by first | rfl | (simp;done) | (simp [*];done)),H',⟨by have:=HJ2.out;have:=HJ9.out;have:=HJ17.out;first | omega | exact Nat.le_refl _⟩,⟨by (with_reducible repeat (first | refine blk_drewN ?_ _ | refine blk_drew ?_ | refine blk_alloc ?_ _));exact BK101.out⟩,⟨by repeat (first | (with_reducible first | exact HB.out | apply below_alloc | apply pw_below_drewN | apply below_drew1 | refine below_set ?_ GE101.out) | exact HB.out)⟩⟩
          ·rw [if_neg c24] at H
           have c24b0 : (a0_0 == 6) = false:=beq_eq_false_iff_ne.mpr c24
           have c24b1 : (a0_0 != 6) = true:=bne_iff_ne.mpr c24
           (first | rw [c24b0] | (simp only [i64_w,i32_w];rw [c24b0]) | skip)
           have H':=Aside0.mk H
           clear H
           have hcz28_0 : wc.cell? ⟨gb101,0,none⟩ = some (.int .i64 a0_0):=(blk_cell BK101.out 0).trans rfl
           have hcz28_1 : wc.cell? ⟨gb101,1,none⟩ = some (.int .i64 a0_1):=(blk_cell BK101.out 1).trans rfl
           have hcz28_2 : wc.cell? ⟨gb101,2,none⟩ = some (.int .i64 a0_2):=(blk_cell BK101.out 2).trans rfl
           have hcz28_3 : wc.cell? ⟨gb101,3,none⟩ = some (.int .i64 a0_3):=(blk_cell BK101.out 3).trans rfl
           have hcz28_4 : wc.cell? ⟨gb101,4,none⟩ = some (.int .u64 a0_4):=(blk_cell BK101.out 4).trans rfl
           have hcz28_5 : wc.cell? ⟨gb101,5,none⟩ = some (.string a0_5):=(blk_cell BK101.out 5).trans rfl
           have hfz28_0:=blk_frozen BK101.out 0
           have hfz28_1:=blk_frozen BK101.out 1
           have hfz28_2:=blk_frozen BK101.out 2
           have hfz28_3:=blk_frozen BK101.out 3
           have hfz28_4:=blk_frozen BK101.out 4
           have hfz28_5:=blk_frozen BK101.out 5
           go_wp2
           go_meet
           case rel=>exact ⟨_,(false),(by first | rfl | (simp;done) | (simp [*];done)),H',⟨by have:=HJ2.out;have:=HJ9.out;have:=HJ17.out;first | omega | exact Nat.le_refl _⟩,⟨by (with_reducible repeat (first | refine blk_drewN ?_ _ | refine blk_drew ?_ | refine blk_alloc ?_ _));exact BK101.out⟩,⟨by repeat (first | (with_reducible first | exact HB.out | apply below_alloc | apply pw_below_drewN | apply below_drew1 | refine below_set ?_ GE101.out) | exact HB.out)⟩⟩
        case rest =>
         clear HC22
         try clear c1
         try clear c2
         try clear p2
         try clear c4
         try clear c5
         try clear c5b0
         try clear c5b1
         try clear c11
         try clear c12
         try clear c12b0
         try clear c12b1
         try clear c13
         try clear c13b0
         try clear c17
         try clear c19
         try clear c19b0
         try clear c23
         try clear c24
         try clear c24b0
         try clear c24b1
         try clear c25
         try clear c25b0
         try clear hcz14_0
         try clear hcz14_1
         try clear hcz14_2
         try clear hcz14_3
         try clear hcz14_4
         try clear hcz14_5
         try clear hcz15_0
         try clear hcz15_1
         try clear hcz15_2
         try clear hcz15_3
         try clear hcz15_4
         try clear hcz15_5
         try clear hcz16_0
         try clear hcz16_1
         try clear hcz16_2
         try clear hcz16_3
         try clear hcz16_4
         try clear hcz16_5
         try clear hcz20_0
         try clear hcz20_1
         try clear hcz20_2
         try clear hcz20_3
         try clear hcz20_4
         try clear hcz20_5
         try clear hcz21_0
         try clear hcz21_1
         try clear hcz21_2
         try clear hcz21_3
         try clear hcz21_4
         try clear hcz21_5
         try clear hcz26_0
         try clear hcz26_1
         try clear hcz26_2
         try clear hcz26_3
         try clear hcz26_4
         try clear hcz26_5
         try clear hcz27_0
         try clear hcz27_1
         try clear hcz27_2
         try clear hcz27_3
         try clear hcz27_4
         try clear hcz27_5
         try clear hcz28_0
         try clear hcz28_1
         try clear hcz28_2
         try clear hcz28_3
         try clear hcz28_4
         try clear hcz28_5
         try clear hcz7_0
         try clear hcz7_1
         try clear hcz7_2
         try clear hcz7_3
         try clear hcz7_4
         try clear hcz7_5
         try clear hcz9_0
         try clear hcz9_1
         try clear hcz9_2
         try clear hcz9_3
         try clear hcz9_4
         try clear hcz9_5
         try clear hfz14_0
         try clear hfz14_1
         try clear hfz14_2
         try clear hfz14_3
         try clear hfz14_4
         try clear hfz14_5
         try clear hfz15_0
         try clear hfz15_1
         try clear hfz15_2
         try clear hfz15_3
         try clear hfz15_4
         try clear hfz15_5
         try clear hfz16_0
         try clear hfz16_1
         try clear hfz16_2
         try clear hfz16_3
         try clear hfz16_4
         try clear hfz16_5
         try clear hfz20_0
         try clear hfz20_1
         try clear hfz20_2
         try clear hfz20_3
         try clear hfz20_4
         try clear hfz20_5
         try clear hfz21_0
         try clear hfz21_1
         try clear hfz21_2
         try clear hfz21_3
         try clear hfz21_4
         try clear hfz21_5
         try clear hfz26_0
         try clear hfz26_1
         try clear hfz26_2
         try clear hfz26_3
         try clear hfz26_4
         try clear hfz26_5
         try clear hfz27_0
         try clear hfz27_1
         try clear hfz27_2
         try clear hfz27_3
         try clear hfz27_4
         try clear hfz27_5
         try clear hfz28_0
         try clear hfz28_1
         try clear hfz28_2
         try clear hfz28_3
         try clear hfz28_4
         try clear hfz28_5
         try clear hfz7_0
         try clear hfz7_1
         try clear hfz7_2
         try clear hfz7_3
         try clear hfz7_4
         try clear hfz7_5
         try clear hfz9_0
         try clear hfz9_1
         try clear hfz9_2
         try clear hfz9_3
         try clear hfz9_4
         try clear hfz9_5
         try clear p2
         obtain ⟨kq,x28_21,rfl,HA,HJ21,BK101,HB⟩:=hcut
         cases kq with
         | zero=>exact absurd HA.out (by simp [expr_takes.j3])
         | succ kj21 =>
          have H:=HA.out
          clear HA
          simp only [expr_takes.j3] at H
          by_cases c29 : x28_21 = true
          ·subst c29
           have H1 : (some 1) = some r:=by rw [if_pos rfl] at H;exact H
           clear H
           have H:=H1
           clear H1
           obtain rfl:=Option.some.inj H
           go_wp2
           go_ret
           exact ⟨by first | rfl | (simp [errW_none,errW_some] <;> rfl) | (simp [*,errW_none,errW_some] <;> rfl),by repeat (first | (with_reducible first | exact HB.out | apply below_alloc | apply pw_below_drewN | apply below_drew1 | refine below_set ?_ GE101.out) | exact HB.out)⟩
          ·replace c29:=Bool.eq_false_iff.mpr c29
           subst c29
           have H1 : (if a0_0 ≥ 10 then (if a0_0 ≤ 24 then (some 2) else (some (-1))) else (some (-1))) = some r:=by rw [if_neg (show ¬ (false = true) by decide)] at H;exact H
           clear H
           have H:=H1
           clear H1
           by_cases c30 : a0_0 ≥ 10
           ·rw [if_pos c30] at H
            have c30b0 : decide (10 ≤ a0_0) = true:=decide_eq_true c30
            clear c30
            by_cases c31 : a0_0 ≤ 24
            ·rw [if_pos c31] at H
             have c31b0 : decide (a0_0 ≤ 24) = true:=decide_eq_true c31
             clear c31
             obtain rfl:=Option.some.inj H
             have hcz32_0 : wc.cell? ⟨gb101,0,none⟩ = some (.int .i64 a0_0):=(blk_cell BK101.out 0).trans rfl
             have hcz32_1 : wc.cell? ⟨gb101,1,none⟩ = some (.int .i64 a0_1):=(blk_cell BK101.out 1).trans rfl
             have hcz32_2 : wc.cell? ⟨gb101,2,none⟩ = some (.int .i64 a0_2):=(blk_cell BK101.out 2).trans rfl
             have hcz32_3 : wc.cell? ⟨gb101,3,none⟩ = some (.int .i64 a0_3):=(blk_cell BK101.out 3).trans rfl
             have hcz32_4 : wc.cell? ⟨gb101,4,none⟩ = some (.int .u64 a0_4):=(blk_cell BK101.out 4).trans rfl
             have hcz32_5 : wc.cell? ⟨gb101,5,none⟩ = some (.string a0_5):=(blk_cell BK101.out 5).trans rfl
             have hfz32_0:=blk_frozen BK101.out 0
             have hfz32_1:=blk_frozen BK101.out 1
             have hfz32_2:=blk_frozen BK101.out 2
             have hfz32_3:=blk_frozen BK101.out 3
             have hfz32_4:=blk_frozen BK101.out 4
             have hfz32_5:=blk_frozen BK101.out 5
             go_wp2
             go_ret
             exact ⟨by first | rfl | (simp [errW_none,errW_some] <;> rfl) | (simp [*,errW_none,errW_some] <;> rfl),by repeat (first | (with_reducible first | exact HB.out | apply below_alloc | apply pw_below_drewN | apply below_drew1 | refine below_set ?_ GE101.out) | exact HB.out)⟩
            ·rw [if_neg c31] at H
             have c31b0 : decide (a0_0 ≤ 24) = false:=decide_eq_false c31
             clear c31
             obtain rfl:=Option.some.inj H
             have hcz33_0 : wc.cell? ⟨gb101,0,none⟩ = some (.int .i64 a0_0):=(blk_cell BK101.out 0).trans rfl
             have hcz33_1 : wc.cell? ⟨gb101,1,none⟩ = some (.int .i64 a0_1):=(blk_cell BK101.out 1).trans rfl
             have hcz33_2 : wc.cell? ⟨gb101,2,none⟩ = some (.int .i64 a0_2):=(blk_cell BK101.out 2).trans rfl
             have hcz33_3 : wc.cell? ⟨gb101,3,none⟩ = some (.int .i64 a0_3):=(blk_cell BK101.out 3).trans rfl
             have hcz33_4 : wc.cell? ⟨gb101,4,none⟩ = some (.int .u64 a0_4):=(blk_cell BK101.out 4).trans rfl
             have hcz33_5 : wc.cell? ⟨gb101,5,none⟩ = some (.string a0_5):=(blk_cell BK101.out 5).trans rfl
             have hfz33_0:=blk_frozen BK101.out 0
             have hfz33_1:=blk_frozen BK101.out 1
             have hfz33_2:=blk_frozen BK101.out 2
             have hfz33_3:=blk_frozen BK101.out 3
             have hfz33_4:=blk_frozen BK101.out 4
             have hfz33_5:=blk_frozen BK101.out 5
             go_wp2
             go_ret
             exact ⟨by first | rfl | (simp [errW_none,errW_some] <;> rfl) | (simp [*,errW_none,errW_some] <;> rfl),by repeat (first | (with_reducible first | exact HB.out | apply below_alloc | apply pw_below_drewN | apply below_drew1 | refine below_set ?_ GE101.out) | exact HB.out)⟩
           ·rw [if_neg c30] at H
            have c30b0 : decide (10 ≤ a0_0) = false:=decide_eq_false c30
            clear c30
            obtain rfl:=Option.some.inj H
            have hcz34_0 : wc.cell? ⟨gb101,0,none⟩ = some (.int .i64 a0_0):=(blk_cell BK101.out 0).trans rfl
            have hcz34_1 : wc.cell? ⟨gb101,1,none⟩ = some (.int .i64 a0_1):=(blk_cell BK101.out 1).trans rfl
            have hcz34_2 : wc.cell? ⟨gb101,2,none⟩ = some (.int .i64 a0_2):=(blk_cell BK101.out 2).trans rfl
            have hcz34_3 : wc.cell? ⟨gb101,3,none⟩ = some (.int .i64 a0_3):=(blk_cell BK101.out 3).trans rfl
            have hcz34_4 : wc.cell? ⟨gb101,4,none⟩ = some (.int .u64 a0_4):=(blk_cell BK101.out 4).trans rfl
            have hcz34_5 : wc.cell? ⟨gb101,5,none⟩ = some (.string a0_5):=(blk_cell BK101.out 5).trans rfl
            have hfz34_0:=blk_frozen BK101.out 0
            have hfz34_1:=blk_frozen BK101.out 1
            have hfz34_2:=blk_frozen BK101.out 2
            have hfz34_3:=blk_frozen BK101.out 3
            have hfz34_4:=blk_frozen BK101.out 4
            have hfz34_5:=blk_frozen BK101.out 5
            go_wp2
            go_ret
            exact ⟨by first | rfl | (simp [errW_none,errW_some] <;> rfl) | (simp [*,errW_none,errW_some] <;> rfl),by repeat (first | (with_reducible first | exact HB.out | apply below_alloc | apply pw_below_drewN | apply below_drew1 | refine below_set ?_ GE101.out) | exact HB.out)⟩
end Go.Proofs.YtakcjiinchghaaaGreatDoor.PRW
end
section
namespace Go.Proofs.YtakcjiinchghaaaGreatDoor.PRW
open Go.RowKit Go.Proofs.YtakcjiinchghaaaGreatDoorW.PrintWords Go.Proofs.YtakcjiinchghaaaGreatDoorW.PrintLast
set_option linter.unusedVariables false
set_option linter.unusedSimpArgs false
def expr_Sound.l0 : Nat → Int → Int → List (S41) → Int → Int → Option (Bool)
 | 0,_,_,_,_,_=>none
 | k + 1,x1,x5,x12,x13,x14=>if x14 < x13 then (if 0 ≤ x14 then (if x14 < (x12.length : Int) then ((expr_takes.f k ((rd_T41 x12 x14).f0) ((rd_T41 x12 x14).f1) ((rd_T41 x12 x14).f2.f0) ((rd_T41 x12 x14).f2.f1) ((rd_T41 x12 x14).f2.f2) ((rd_T41 x12 x14).f2.f3) x1).bind fun t105=>(if t105 < 0 then (some false) else (if t105 > x5 then (some false) else (expr_Sound.l0 k x1 (wrap64 (x5 + (wrap64 (1 - t105)))) x12 x13 (wrap64 (x14 + 1)))))) else (none)) else (none)) else (some (x5 == 1))
def expr_Sound.f (k : Nat) (l0 : List (S41)) (a1 : Int) : Option (Bool):=if (l0.length : Int) > 4000 then (some false) else (expr_Sound.l0 k a1 0 l0 (l0.length : Int) 0)
theorem expr_Sound.mono_l : ∀ k,(∀ y0 y1 y2 y3 y4,LeO (expr_Sound.l0 k y0 y1 y2 y3 y4) (expr_Sound.l0 (k + 1) y0 y1 y2 y3 y4))
 | 0=>fun _ _ _ _ _ r h=>by simp [expr_Sound.l0] at h
 | k + 1=>by
  have ih0:=expr_Sound.mono_l k
  ·intro y0 y1 y2 y3 y4
   unfold expr_Sound.l0
   repeat' first
   | (with_reducible exact ih0 _ _ _ _ _)
   | (with_reducible exact expr_takes.mono _ _ _ _ _ _ _ _)
   | (with_reducible exact LeO.refl _)
   | (with_reducible exact LeO.none _)
   | (with_reducible refine LeO.ite ?_ ?_)
   | (with_reducible refine LeO.bind ?_ (fun _=>?_))
   | exact ih0 _ _ _ _ _
   | exact expr_takes.mono _ _ _ _ _ _ _ _
   | exact LeO.none _
   | refine LeO.ite ?_ ?_
   | refine LeO.bind ?_ (fun _=>?_)
theorem expr_Sound.mono : ∀ a0 a1 k,LeO (expr_Sound.f k a0 a1) (expr_Sound.f (k + 1) a0 a1):=by
 intro a0 a1 k
 have ih0:=expr_Sound.mono_l k
 unfold expr_Sound.f
 repeat' first
   | (with_reducible exact ih0 _ _ _ _ _)
   | (with_reducible exact expr_takes.mono _ _ _ _ _ _ _ _)
   | (with_reducible exact LeO.refl _)
   | (with_reducible exact LeO.none _)
   | (with_reducible refine LeO.ite ?_ ?_)
   | (with_reducible refine LeO.bind ?_ (fun _=>?_))
   | exact ih0 _ _ _ _ _
   | exact expr_takes.mono _ _ _ _ _ _ _ _
   | exact LeO.none _
   | refine LeO.ite ?_ ?_
   | refine LeO.bind ?_ (fun _=>?_)
set_option maxHeartbeats 8000000 in
set_option maxRecDepth 100000 in
theorem expr_Sound.calls (k : Nat) (A0 : Option Addr) (c0 : Nat) (l0 : List (S41)) (a1 : Int) (r : Bool) (w : World) (hr0 : Kd.C k41 w A0 l0.length l0) (hc0 : l0.length ≤ c0) (h : expr_Sound.f k l0 a1 = some r) :
  Calls Tryz.prog 13 #[.slice A0 l0.length c0,.int .i64 a1] w fun e w'=>e = .returned (.bool r) ∧ Below w.heap.size w w':=by
 have hu41:=Tryz.underlying41
 have HR0:=Aside0.mk hr0
 have HC0:=Aside0.mk hc0
 clear hr0 hc0
 have HB:=Aside0.mk (Below.refl w.heap.size w)
 have H : (if (l0.length : Int) > 4000 then (some false) else (expr_Sound.l0 k a1 0 l0 (l0.length : Int) 0)) = some r:=h
 clear h
 by_cases c3 : (l0.length : Int) > 4000
 ·rw [if_pos c3] at H
  have c3b0 : decide (4000 < (l0.length : Int)) = true:=decide_eq_true c3
  have c3b1 : decide (4000 < l0.length) = true:=decide_eq_true (by omega)
  clear c3
  obtain rfl:=Option.some.inj H
  go_enter Tryz.func13,Tryz.ntmps13
  go_wp2
  go_ret
  exact ⟨by first | rfl | (simp [errW_none,errW_some] <;> rfl) | (simp [*,errW_none,errW_some] <;> rfl),by repeat (first | (with_reducible first | exact HB.out | apply below_alloc | apply pw_below_drewN | apply below_drew1) | exact HB.out)⟩
 ·rw [if_neg c3] at H
  have c3b0 : decide (4000 < (l0.length : Int)) = false:=decide_eq_false c3
  have c3b1 : decide (4000 < l0.length) = false:=decide_eq_false (by omega)
  clear c3
  have H':=Aside0.mk H
  clear H
  go_enter Tryz.func13,Tryz.ntmps13
  go_wp2
  go_loopg [5,14] k (fun kq v5 v14 w'=>∃ (x5_1 : Int) (x14_1 : Int),v5 = .int .i64 x5_1 ∧ v14 = .int .i64 x14_1 ∧ Aside0 (expr_Sound.l0 kq a1 x5_1 l0 (l0.length : Int) x14_1 = some r) ∧ Aside0 (kq ≤ k) ∧ Aside0 (Below w.heap.size w w'))
  case atStart=>exact ⟨(0),(0),(by first | rfl | (simp;done) | (simp [*];done)),(by first | rfl | (simp;done) | (simp [*];done)),H',⟨Nat.le_refl _⟩,⟨by repeat (first | (with_reducible first | exact HB.out | apply below_alloc | apply pw_below_drewN | apply below_drew1) | exact HB.out)⟩⟩
  case round =>
   clear H'
   try clear c1
   try clear p2
   try clear c3
   try clear c3b0
   try clear c3b1
   obtain ⟨x5_1,x14_1,rfl,rfl,HA,HK1,HB⟩:=hrel
   cases gk with
   | zero=>exact absurd HA.out (by simp [expr_Sound.l0])
   | succ k1 =>
    have H:=HA.out
    clear HA
    simp only [expr_Sound.l0] at H
    by_cases c4 : x14_1 < (l0.length : Int)
    ·rw [if_pos c4] at H
     have c4b0 : decide (x14_1 < (l0.length : Int)) = true:=decide_eq_true c4
     clear c4
     by_cases c5 : 0 ≤ x14_1
     ·rw [if_pos c5] at H
      have c5b0 : decide (0 ≤ x14_1) = true:=decide_eq_true c5
      clear c5
      by_cases c6 : x14_1 < (l0.length : Int)
      ·rw [if_pos c6] at H
       have c6b0 : decide (x14_1 < (l0.length : Int)) = true:=decide_eq_true c6
       clear c6
       replace H:=Option.bind_eq_some_iff.mp H
       obtain ⟨t105,A70,H⟩:=H
       replace H : (if t105 < 0 then (some false) else (if t105 > x5_1 then (some false) else (expr_Sound.l0 k1 a1 (wrap64 (x5_1 + (wrap64 (1 - t105)))) l0 (l0.length : Int) (wrap64 (x14_1 + 1))))) = some r:=H
       have A7:=Aside0.mk A70
       clear A70
       by_cases c8 : t105 < 0
       ·rw [if_pos c8] at H
        have c8b0 : decide (t105 < 0) = true:=decide_eq_true c8
        clear c8
        obtain rfl:=Option.some.inj H
        have p103 : 0 ≤ (x14_1 : Int):=of_decide_eq_true (by first | (with_reducible assumption) | assumption)
        have q103 : x14_1 < (l0.length : Int):=of_decide_eq_true (by first | (with_reducible assumption) | assumption)
        obtain ⟨ad103,e103,hx103_0,hx103_1,hx103_2,hx103_3,hx103_4,hx103_5⟩:=at_T41 HR0.out x14_1 p103 q103
        cases e103
        replace hx103_0:=(HB.out.cell (World.block_lt_of_cell? w _ hx103_0)).trans hx103_0
        replace hx103_1:=(HB.out.cell (World.block_lt_of_cell? w _ hx103_1)).trans hx103_1
        replace hx103_2:=(HB.out.cell (World.block_lt_of_cell? w _ hx103_2)).trans hx103_2
        replace hx103_3:=(HB.out.cell (World.block_lt_of_cell? w _ hx103_3)).trans hx103_3
        replace hx103_4:=(HB.out.cell (World.block_lt_of_cell? w _ hx103_4)).trans hx103_4
        replace hx103_5:=(HB.out.cell (World.block_lt_of_cell? w _ hx103_5)).trans hx103_5
        replace p103:=eq_true p103
        replace q103:=eq_true q103
        go_wp2_with (first | ((with_reducible refine gate_dst (N:=7) rfl ?_);refine box_event ?hg (N:=7) ?hd (cs:=#[.int .i64 0,.int .i64 0,.int .i64 0,.int .i64 0,.int .u64 0,.string (⟨#[]⟩ : ByteArray)]) (t:=41) ?hr ?_;(case hd=>rfl);(case hg=>rfl);(case hr=>first | (go_simp;done) | (go_simp;rfl));intro gb104 hg w9 hbox hb;have n0_:=Aside0.mk (below_step (by repeat (first | (with_reducible first | exact HB.out | apply below_alloc | apply pw_below_drewN | apply below_drew1) | exact HB.out)) hb);have n1_:=Aside0.mk (hbox);have n2_:=Aside0.mk ((by rw [hg];exact (below_size (by repeat (first | (with_reducible first | exact HB.out | apply below_alloc | apply pw_below_drewN | apply below_drew1) | exact HB.out))) : w.heap.size ≤ gb104));have n3_:=Aside0.mk ((by rw [hg];exact (below_size (by repeat (first | (with_reducible first | exact HB.out | apply below_alloc | apply pw_below_drewN | apply below_drew1) | exact HB.out))) : w.heap.size ≤ gb104));clear HB;have HB:=n0_;have BK104:=n1_;have GW104:=n2_;have GE104:=n3_;clear n0_ n1_ n2_ n3_;clear hb hbox hg;have hcz10_0 : w9.cell? ⟨gb104,0,none⟩ = some (.int .i64 0):=(blk_cell BK104.out 0).trans rfl;have hcz10_1 : w9.cell? ⟨gb104,1,none⟩ = some (.int .i64 0):=(blk_cell BK104.out 1).trans rfl;have hcz10_2 : w9.cell? ⟨gb104,2,none⟩ = some (.int .i64 0):=(blk_cell BK104.out 2).trans rfl;have hcz10_3 : w9.cell? ⟨gb104,3,none⟩ = some (.int .i64 0):=(blk_cell BK104.out 3).trans rfl;have hcz10_4 : w9.cell? ⟨gb104,4,none⟩ = some (.int .u64 0):=(blk_cell BK104.out 4).trans rfl;have hcz10_5 : w9.cell? ⟨gb104,5,none⟩ = some (.string (⟨#[]⟩ : ByteArray)):=(blk_cell BK104.out 5).trans rfl;have hfz10_0:=blk_frozen BK104.out 0;have hfz10_1:=blk_frozen BK104.out 1;have hfz10_2:=blk_frozen BK104.out 2;have hfz10_3:=blk_frozen BK104.out 3;have hfz10_4:=blk_frozen BK104.out 4;have hfz10_5:=blk_frozen BK104.out 5) | ((with_reducible refine gate_callee (f:=43) rfl ?_);refine goesL_ (some 20) rfl rfl Tryz.func43 (by kernel_rfl) rfl #[.agg #[.int .i64 ((rd_T41 l0 x14_1).f0),.int .i64 ((rd_T41 l0 x14_1).f1),.int .i64 ((rd_T41 l0 x14_1).f2.f0),.int .i64 ((rd_T41 l0 x14_1).f2.f1),.int .u64 ((rd_T41 l0 x14_1).f2.f2),.string ((rd_T41 l0 x14_1).f2.f3)],.int .i64 a1] rfl (by (try simp only [List.map_toArray,List.map_cons,List.map_nil]);first | done | rfl | (simp only [List.length_drop,List.length_take];rfl)) ?_;(with_reducible refine (expr_takes.calls k1 ((rd_T41 l0 x14_1).f0) ((rd_T41 l0 x14_1).f1) ((rd_T41 l0 x14_1).f2.f0) ((rd_T41 l0 x14_1).f2.f1) ((rd_T41 l0 x14_1).f2.f2) ((rd_T41 l0 x14_1).f2.f3) a1 t105 _ A7.out).mono ?_);rintro e w11 ⟨rfl,hb⟩;refine ⟨_,rfl, ?_⟩;have n0_:=Aside0.mk (blk_below (g:=gb104) (o:=.cells #[.int .i64 ((rd_T41 l0 x14_1).f0),.int .i64 ((rd_T41 l0 x14_1).f1),.int .i64 ((rd_T41 l0 x14_1).f2.f0),.int .i64 ((rd_T41 l0 x14_1).f2.f1),.int .u64 ((rd_T41 l0 x14_1).f2.f2),.string ((rd_T41 l0 x14_1).f2.f3)] 41 (0,0)) (by (with_reducible repeat (first | refine blk_drewN ?_ _ | refine blk_drew ?_ | refine blk_alloc ?_ _));refine blk_put (cs:=#[.int .i64 ((rd_T41 l0 x14_1).f0),.int .i64 ((rd_T41 l0 x14_1).f1),.int .i64 ((rd_T41 l0 x14_1).f2.f0),.int .i64 ((rd_T41 l0 x14_1).f2.f1),.int .u64 ((rd_T41 l0 x14_1).f2.f2),.string (⟨#[]⟩ : ByteArray)]) ?_ 5 _ rfl;(with_reducible repeat (first | refine blk_drewN ?_ _ | refine blk_drew ?_ | refine blk_alloc ?_ _));refine blk_put (cs:=#[.int .i64 ((rd_T41 l0 x14_1).f0),.int .i64 ((rd_T41 l0 x14_1).f1),.int .i64 ((rd_T41 l0 x14_1).f2.f0),.int .i64 ((rd_T41 l0 x14_1).f2.f1),.int .u64 0,.string (⟨#[]⟩ : ByteArray)]) ?_ 4 _ rfl;(with_reducible repeat (first | refine blk_drewN ?_ _ | refine blk_drew ?_ | refine blk_alloc ?_ _));refine blk_put (cs:=#[.int .i64 ((rd_T41 l0 x14_1).f0),.int .i64 ((rd_T41 l0 x14_1).f1),.int .i64 ((rd_T41 l0 x14_1).f2.f0),.int .i64 0,.int .u64 0,.string (⟨#[]⟩ : ByteArray)]) ?_ 3 _ rfl;(with_reducible repeat (first | refine blk_drewN ?_ _ | refine blk_drew ?_ | refine blk_alloc ?_ _));refine blk_put (cs:=#[.int .i64 ((rd_T41 l0 x14_1).f0),.int .i64 ((rd_T41 l0 x14_1).f1),.int .i64 0,.int .i64 0,.int .u64 0,.string (⟨#[]⟩ : ByteArray)]) ?_ 2 _ rfl;(with_reducible repeat (first | refine blk_drewN ?_ _ | refine blk_drew ?_ | refine blk_alloc ?_ _));refine blk_put (cs:=#[.int .i64 ((rd_T41 l0 x14_1).f0),.int .i64 0,.int .i64 0,.int .i64 0,.int .u64 0,.string (⟨#[]⟩ : ByteArray)]) ?_ 1 _ rfl;(with_reducible repeat (first | refine blk_drewN ?_ _ | refine blk_drew ?_ | refine blk_alloc ?_ _));refine blk_put (cs:=#[.int .i64 0,.int .i64 0,.int .i64 0,.int .i64 0,.int .u64 0,.string (⟨#[]⟩ : ByteArray)]) ?_ 0 _ rfl;(with_reducible repeat (first | refine blk_drewN ?_ _ | refine blk_drew ?_ | refine blk_alloc ?_ _));exact BK104.out) hb);have n1_:=Aside0.mk (below_step (by repeat (first | (with_reducible first | exact HB.out | apply below_alloc | apply pw_below_drewN | apply below_drew1 | refine below_set ?_ GE104.out) | exact HB.out)) hb);clear BK104;clear HB;have BK104:=n0_;have HB:=n1_;clear n0_ n1_;(try clear hb);(try clear hb2);(try clear hk);(try clear hi)))
        go_ret
        exact ⟨by first | rfl | (simp [errW_none,errW_some] <;> rfl) | (simp [*,errW_none,errW_some] <;> rfl),by repeat (first | (with_reducible first | exact HB.out | apply below_alloc | apply pw_below_drewN | apply below_drew1 | refine below_set ?_ GE104.out) | exact HB.out)⟩
       ·rw [if_neg c8] at H
        have c8b0 : decide (t105 < 0) = false:=decide_eq_false c8
        clear c8
        by_cases c12 : t105 > x5_1
        ·rw [if_pos c12] at H
         have c12b0 : decide (x5_1 < t105) = true:=decide_eq_true c12
         clear c12
         obtain rfl:=Option.some.inj H
         have p103 : 0 ≤ (x14_1 : Int):=of_decide_eq_true (by first | (with_reducible assumption) | assumption)
         have q103 : x14_1 < (l0.length : Int):=of_decide_eq_true (by first | (with_reducible assumption) | assumption)
         obtain ⟨ad103,e103,hx103_0,hx103_1,hx103_2,hx103_3,hx103_4,hx103_5⟩:=at_T41 HR0.out x14_1 p103 q103
         cases e103
         replace hx103_0:=(HB.out.cell (World.block_lt_of_cell? w _ hx103_0)).trans hx103_0
         replace hx103_1:=(HB.out.cell (World.block_lt_of_cell? w _ hx103_1)).trans hx103_1
         replace hx103_2:=(HB.out.cell (World.block_lt_of_cell? w _ hx103_2)).trans hx103_2
         replace hx103_3:=(HB.out.cell (World.block_lt_of_cell? w _ hx103_3)).trans hx103_3
         replace hx103_4:=(HB.out.cell (World.block_lt_of_cell? w _ hx103_4)).trans hx103_4
         replace hx103_5:=(HB.out.cell (World.block_lt_of_cell? w _ hx103_5)).trans hx103_5
         replace p103:=eq_true p103
         replace q103:=eq_true q103
         go_wp2_with (first | ((with_reducible refine gate_dst (N:=7) rfl ?_);refine box_event ?hg (N:=7) ?hd (cs:=#[.int .i64 0,.int .i64 0,.int .i64 0,.int .i64 0,.int .u64 0,.string (⟨#[]⟩ : ByteArray)]) (t:=41) ?hr ?_;(case hd=>rfl);(case hg=>rfl);(case hr=>first | (go_simp;done) | (go_simp;rfl));intro gb104 hg w13 hbox hb;have n0_:=Aside0.mk (below_step (by repeat (first | (with_reducible first | exact HB.out | apply below_alloc | apply pw_below_drewN | apply below_drew1) | exact HB.out)) hb);have n1_:=Aside0.mk (hbox);have n2_:=Aside0.mk ((by rw [hg];exact (below_size (by repeat (first | (with_reducible first | exact HB.out | apply below_alloc | apply pw_below_drewN | apply below_drew1) | exact HB.out))) : w.heap.size ≤ gb104));have n3_:=Aside0.mk ((by rw [hg];exact (below_size (by repeat (first | (with_reducible first | exact HB.out | apply below_alloc | apply pw_below_drewN | apply below_drew1) | exact HB.out))) : w.heap.size ≤ gb104));clear HB;have HB:=n0_;have BK104:=n1_;have GW104:=n2_;have GE104:=n3_;clear n0_ n1_ n2_ n3_;clear hb hbox hg;have hcz14_0 : w13.cell? ⟨gb104,0,none⟩ = some (.int .i64 0):=(blk_cell BK104.out 0).trans rfl;have hcz14_1 : w13.cell? ⟨gb104,1,none⟩ = some (.int .i64 0):=(blk_cell BK104.out 1).trans rfl;have hcz14_2 : w13.cell? ⟨gb104,2,none⟩ = some (.int .i64 0):=(blk_cell BK104.out 2).trans rfl;have hcz14_3 : w13.cell? ⟨gb104,3,none⟩ = some (.int .i64 0):=(blk_cell BK104.out 3).trans rfl;have hcz14_4 : w13.cell? ⟨gb104,4,none⟩ = some (.int .u64 0):=(blk_cell BK104.out 4).trans rfl;have hcz14_5 : w13.cell? ⟨gb104,5,none⟩ = some (.string (⟨#[]⟩ : ByteArray)):=(blk_cell BK104.out 5).trans rfl;have hfz14_0:=blk_frozen BK104.out 0;have hfz14_1:=blk_frozen BK104.out 1;have hfz14_2:=blk_frozen BK104.out 2;have hfz14_3:=blk_frozen BK104.out 3;have hfz14_4:=blk_frozen BK104.out 4;have hfz14_5:=blk_frozen BK104.out 5) | ((with_reducible refine gate_callee (f:=43) rfl ?_);refine goesL_ (some 20) rfl rfl Tryz.func43 (by kernel_rfl) rfl #[.agg #[.int .i64 ((rd_T41 l0 x14_1).f0),.int .i64 ((rd_T41 l0 x14_1).f1),.int .i64 ((rd_T41 l0 x14_1).f2.f0),.int .i64 ((rd_T41 l0 x14_1).f2.f1),.int .u64 ((rd_T41 l0 x14_1).f2.f2),.string ((rd_T41 l0 x14_1).f2.f3)],.int .i64 a1] rfl (by (try simp only [List.map_toArray,List.map_cons,List.map_nil]);first | done | rfl | (simp only [List.length_drop,List.length_take];rfl)) ?_;(with_reducible refine (expr_takes.calls k1 ((rd_T41 l0 x14_1).f0) ((rd_T41 l0 x14_1).f1) ((rd_T41 l0 x14_1).f2.f0) ((rd_T41 l0 x14_1).f2.f1) ((rd_T41 l0 x14_1).f2.f2) ((rd_T41 l0 x14_1).f2.f3) a1 t105 _ A7.out).mono ?_);rintro e w15 ⟨rfl,hb⟩;refine ⟨_,rfl, ?_⟩;have n0_:=Aside0.mk (blk_below (g:=gb104) (o:=.cells #[.int .i64 ((rd_T41 l0 x14_1).f0),.int .i64 ((rd_T41 l0 x14_1).f1),.int .i64 ((rd_T41 l0 x14_1).f2.f0),.int .i64 ((rd_T41 l0 x14_1).f2.f1),.int .u64 ((rd_T41 l0 x14_1).f2.f2),.string ((rd_T41 l0 x14_1).f2.f3)] 41 (0,0)) (by (with_reducible repeat (first | refine blk_drewN ?_ _ | refine blk_drew ?_ | refine blk_alloc ?_ _));refine blk_put (cs:=#[.int .i64 ((rd_T41 l0 x14_1).f0),.int .i64 ((rd_T41 l0 x14_1).f1),.int .i64 ((rd_T41 l0 x14_1).f2.f0),.int .i64 ((rd_T41 l0 x14_1).f2.f1),.int .u64 ((rd_T41 l0 x14_1).f2.f2),.string (⟨#[]⟩ : ByteArray)]) ?_ 5 _ rfl;(with_reducible repeat (first | refine blk_drewN ?_ _ | refine blk_drew ?_ | refine blk_alloc ?_ _));refine blk_put (cs:=#[.int .i64 ((rd_T41 l0 x14_1).f0),.int .i64 ((rd_T41 l0 x14_1).f1),.int .i64 ((rd_T41 l0 x14_1).f2.f0),.int .i64 ((rd_T41 l0 x14_1).f2.f1),.int .u64 0,.string (⟨#[]⟩ : ByteArray)]) ?_ 4 _ rfl;(with_reducible repeat (first | refine blk_drewN ?_ _ | refine blk_drew ?_ | refine blk_alloc ?_ _));refine blk_put (cs:=#[.int .i64 ((rd_T41 l0 x14_1).f0),.int .i64 ((rd_T41 l0 x14_1).f1),.int .i64 ((rd_T41 l0 x14_1).f2.f0),.int .i64 0,.int .u64 0,.string (⟨#[]⟩ : ByteArray)]) ?_ 3 _ rfl;(with_reducible repeat (first | refine blk_drewN ?_ _ | refine blk_drew ?_ | refine blk_alloc ?_ _));refine blk_put (cs:=#[.int .i64 ((rd_T41 l0 x14_1).f0),.int .i64 ((rd_T41 l0 x14_1).f1),.int .i64 0,.int .i64 0,.int .u64 0,.string (⟨#[]⟩ : ByteArray)]) ?_ 2 _ rfl;(with_reducible repeat (first | refine blk_drewN ?_ _ | refine blk_drew ?_ | refine blk_alloc ?_ _));refine blk_put (cs:=#[.int .i64 ((rd_T41 l0 x14_1).f0),.int .i64 0,.int .i64 0,.int .i64 0,.int .u64 0,.string (⟨#[]⟩ : ByteArray)]) ?_ 1 _ rfl;(with_reducible repeat (first | refine blk_drewN ?_ _ | refine blk_drew ?_ | refine blk_alloc ?_ _));refine blk_put (cs:=#[.int .i64 0,.int .i64 0,.int .i64 0,.int .i64 0,.int .u64 0,.string (⟨#[]⟩ : ByteArray)]) ?_ 0 _ rfl;(with_reducible repeat (first | refine blk_drewN ?_ _ | refine blk_drew ?_ | refine blk_alloc ?_ _));exact BK104.out) hb);have n1_:=Aside0.mk (below_step (by repeat (first | (with_reducible first | exact HB.out | apply below_alloc | apply pw_below_drewN | apply below_drew1 | refine below_set ?_ GE104.out) | exact HB.out)) hb);clear BK104;clear HB;have BK104:=n0_;have HB:=n1_;clear n0_ n1_;(try clear hb);(try clear hb2);(try clear hk);(try clear hi)))
         go_ret
         exact ⟨by first | rfl | (simp [errW_none,errW_some] <;> rfl) | (simp [*,errW_none,errW_some] <;> rfl),by repeat (first | (with_reducible first | exact HB.out | apply below_alloc | apply pw_below_drewN | apply below_drew1 | refine below_set ?_ GE104.out) | exact HB.out)⟩
        ·rw [if_neg c12] at H
         have c12b0 : decide (x5_1 < t105) = false:=decide_eq_false c12
         clear c12
         have H':=Aside0.mk H
         clear H
         have p103 : 0 ≤ (x14_1 : Int):=of_decide_eq_true (by first | (with_reducible assumption) | assumption)
         have q103 : x14_1 < (l0.length : Int):=of_decide_eq_true (by first | (with_reducible assumption) | assumption)
         obtain ⟨ad103,e103,hx103_0,hx103_1,hx103_2,hx103_3,hx103_4,hx103_5⟩:=at_T41 HR0.out x14_1 p103 q103
         cases e103
         replace hx103_0:=(HB.out.cell (World.block_lt_of_cell? w _ hx103_0)).trans hx103_0
         replace hx103_1:=(HB.out.cell (World.block_lt_of_cell? w _ hx103_1)).trans hx103_1
         replace hx103_2:=(HB.out.cell (World.block_lt_of_cell? w _ hx103_2)).trans hx103_2
         replace hx103_3:=(HB.out.cell (World.block_lt_of_cell? w _ hx103_3)).trans hx103_3
         replace hx103_4:=(HB.out.cell (World.block_lt_of_cell? w _ hx103_4)).trans hx103_4
         replace hx103_5:=(HB.out.cell (World.block_lt_of_cell? w _ hx103_5)).trans hx103_5
         replace p103:=eq_true p103
         replace q103:=eq_true q103
         go_wp2_with (first | ((with_reducible refine gate_dst (N:=7) rfl ?_);refine box_event ?hg (N:=7) ?hd (cs:=#[.int .i64 0,.int .i64 0,.int .i64 0,.int .i64 0,.int .u64 0,.string (⟨#[]⟩ : ByteArray)]) (t:=41) ?hr ?_;(case hd=>rfl);(case hg=>rfl);(case hr=>first | (go_simp;done) | (go_simp;rfl));intro gb104 hg w16 hbox hb;have n0_:=Aside0.mk (below_step (by repeat (first | (with_reducible first | exact HB.out | apply below_alloc | apply pw_below_drewN | apply below_drew1) | exact HB.out)) hb);have n1_:=Aside0.mk (hbox);have n2_:=Aside0.mk ((by rw [hg];exact (below_size (by repeat (first | (with_reducible first | exact HB.out | apply below_alloc | apply pw_below_drewN | apply below_drew1) | exact HB.out))) : w.heap.size ≤ gb104));have n3_:=Aside0.mk ((by rw [hg];exact (below_size (by repeat (first | (with_reducible first | exact HB.out | apply below_alloc | apply pw_below_drewN | apply below_drew1) | exact HB.out))) : w.heap.size ≤ gb104));clear HB;have HB:=n0_;have BK104:=n1_;have GW104:=n2_;have GE104:=n3_;clear n0_ n1_ n2_ n3_;clear hb hbox hg;have hcz17_0 : w16.cell? ⟨gb104,0,none⟩ = some (.int .i64 0):=(blk_cell BK104.out 0).trans rfl;have hcz17_1 : w16.cell? ⟨gb104,1,none⟩ = some (.int .i64 0):=(blk_cell BK104.out 1).trans rfl;have hcz17_2 : w16.cell? ⟨gb104,2,none⟩ = some (.int .i64 0):=(blk_cell BK104.out 2).trans rfl;have hcz17_3 : w16.cell? ⟨gb104,3,none⟩ = some (.int .i64 0):=(blk_cell BK104.out 3).trans rfl;have hcz17_4 : w16.cell? ⟨gb104,4,none⟩ = some (.int .u64 0):=(blk_cell BK104.out 4).trans rfl;have hcz17_5 : w16.cell? ⟨gb104,5,none⟩ = some (.string (⟨#[]⟩ : ByteArray)):=(blk_cell BK104.out 5).trans rfl;have hfz17_0:=blk_frozen BK104.out 0;have hfz17_1:=blk_frozen BK104.out 1;have hfz17_2:=blk_frozen BK104.out 2;have hfz17_3:=blk_frozen BK104.out 3;have hfz17_4:=blk_frozen BK104.out 4;have hfz17_5:=blk_frozen BK104.out 5) | ((with_reducible refine gate_callee (f:=43) rfl ?_);refine goesL_ (some 20) rfl rfl Tryz.func43 (by kernel_rfl) rfl #[.agg #[.int .i64 ((rd_T41 l0 x14_1).f0),.int .i64 ((rd_T41 l0 x14_1).f1),.int .i64 ((rd_T41 l0 x14_1).f2.f0),.int .i64 ((rd_T41 l0 x14_1).f2.f1),.int .u64 ((rd_T41 l0 x14_1).f2.f2),.string ((rd_T41 l0 x14_1).f2.f3)],.int .i64 a1] rfl (by (try simp only [List.map_toArray,List.map_cons,List.map_nil]);first | done | rfl | (simp only [List.length_drop,List.length_take];rfl)) ?_;(with_reducible refine (expr_takes.calls k1 ((rd_T41 l0 x14_1).f0) ((rd_T41 l0 x14_1).f1) ((rd_T41 l0 x14_1).f2.f0) ((rd_T41 l0 x14_1).f2.f1) ((rd_T41 l0 x14_1).f2.f2) ((rd_T41 l0 x14_1).f2.f3) a1 t105 _ A7.out).mono ?_);rintro e w18 ⟨rfl,hb⟩;refine ⟨_,rfl, ?_⟩;have n0_:=Aside0.mk (blk_below (g:=gb104) (o:=.cells #[.int .i64 ((rd_T41 l0 x14_1).f0),.int .i64 ((rd_T41 l0 x14_1).f1),.int .i64 ((rd_T41 l0 x14_1).f2.f0),.int .i64 ((rd_T41 l0 x14_1).f2.f1),.int .u64 ((rd_T41 l0 x14_1).f2.f2),.string ((rd_T41 l0 x14_1).f2.f3)] 41 (0,0)) (by (with_reducible repeat (first | refine blk_drewN ?_ _ | refine blk_drew ?_ | refine blk_alloc ?_ _));refine blk_put (cs:=#[.int .i64 ((rd_T41 l0 x14_1).f0),.int .i64 ((rd_T41 l0 x14_1).f1),.int .i64 ((rd_T41 l0 x14_1).f2.f0),.int .i64 ((rd_T41 l0 x14_1).f2.f1),.int .u64 ((rd_T41 l0 x14_1).f2.f2),.string (⟨#[]⟩ : ByteArray)]) ?_ 5 _ rfl;(with_reducible repeat (first | refine blk_drewN ?_ _ | refine blk_drew ?_ | refine blk_alloc ?_ _));refine blk_put (cs:=#[.int .i64 ((rd_T41 l0 x14_1).f0),.int .i64 ((rd_T41 l0 x14_1).f1),.int .i64 ((rd_T41 l0 x14_1).f2.f0),.int .i64 ((rd_T41 l0 x14_1).f2.f1),.int .u64 0,.string (⟨#[]⟩ : ByteArray)]) ?_ 4 _ rfl;(with_reducible repeat (first | refine blk_drewN ?_ _ | refine blk_drew ?_ | refine blk_alloc ?_ _));refine blk_put (cs:=#[.int .i64 ((rd_T41 l0 x14_1).f0),.int .i64 ((rd_T41 l0 x14_1).f1),.int .i64 ((rd_T41 l0 x14_1).f2.f0),.int .i64 0,.int .u64 0,.string (⟨#[]⟩ : ByteArray)]) ?_ 3 _ rfl;(with_reducible repeat (first | refine blk_drewN ?_ _ | refine blk_drew ?_ | refine blk_alloc ?_ _));refine blk_put (cs:=#[.int .i64 ((rd_T41 l0 x14_1).f0),.int .i64 ((rd_T41 l0 x14_1).f1),.int .i64 0,.int .i64 0,.int .u64 0,.string (⟨#[]⟩ : ByteArray)]) ?_ 2 _ rfl;(with_reducible repeat (first | refine blk_drewN ?_ _ | refine blk_drew ?_ | refine blk_alloc ?_ _));refine blk_put (cs:=#[.int .i64 ((rd_T41 l0 x14_1).f0),.int .i64 0,.int .i64 0,.int .i64 0,.int .u64 0,.string (⟨#[]⟩ : ByteArray)]) ?_ 1 _ rfl;(with_reducible repeat (first | refine blk_drewN ?_ _ | refine blk_drew ?_ | refine blk_alloc ?_ _));refine blk_put (cs:=#[.int .i64 0,.int .i64 0,.int .i64 0,.int .i64 0,.int .u64 0,.string (⟨#[]⟩ : ByteArray)]) ?_ 0 _ rfl;(with_reducible repeat (first | refine blk_drewN ?_ _ | refine blk_drew ?_ | refine blk_alloc ?_ _));exact BK104.out) hb);have n1_:=Aside0.mk (below_step (by repeat (first | (with_reducible first | exact HB.out | apply below_alloc | apply pw_below_drewN | apply below_drew1 | refine below_set ?_ GE104.out) | exact HB.out)) hb);clear BK104;clear HB;have BK104:=n0_;have HB:=n1_;clear n0_ n1_;(try clear hb);(try clear hb2);(try clear hk);(try clear hi)))
         go_roundg k1
         case measure=>have:=HK1.out;omega
         case rel=>exact ⟨(wrap64 (x5_1 + (wrap64 (1 - t105)))),(wrap64 (x14_1 + 1)),(by first | rfl | (simp;done) | (simp [*];done)),(by first | rfl | (simp;done) | (simp [*];done)),H',⟨by have:=HK1.out;omega⟩,⟨by repeat (first | (with_reducible first | exact HB.out | apply below_alloc | apply pw_below_drewN | apply below_drew1 | refine below_set ?_ GE104.out) | exact HB.out)⟩⟩
      ·rw [if_neg c6] at H
       exact absurd H (by simp)
     ·rw [if_neg c5] at H
      exact absurd H (by simp)
    ·rw [if_neg c4] at H
     have c4b0 : decide (x14_1 < (l0.length : Int)) = false:=decide_eq_false c4
     clear c4
     obtain rfl:=Option.some.inj H
     go_wp2
     go_ret
     exact ⟨by first | rfl | (simp [errW_none,errW_some] <;> rfl) | (simp [*,errW_none,errW_some] <;> rfl),by repeat (first | (with_reducible first | exact HB.out | apply below_alloc | apply pw_below_drewN | apply below_drew1) | exact HB.out)⟩
end Go.Proofs.YtakcjiinchghaaaGreatDoor.PRW
end
