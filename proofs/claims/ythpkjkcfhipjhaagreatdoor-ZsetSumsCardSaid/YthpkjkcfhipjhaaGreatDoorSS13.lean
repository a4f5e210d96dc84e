/- a part of the claim: what the card leans on, out of the texts PZBx1, PZBx2 (put together by wip/tools/shake.py). -/
import Derived.Test.YthpkjkcfhipjhaaGreatDoorSS1
import Derived.Test.YthpkjkcfhipjhaaGreatDoorSS2
import Derived.Test.YthpkjkcfhipjhaaGreatDoorSS4
import Derived.Test.YthpkjkcfhipjhaaGreatDoorSS5
import Derived.Test.YthpkjkcfhipjhaaGreatDoorSS6
import Derived.Test.YthpkjkcfhipjhaaGreatDoorSS7
import Derived.Test.YthpkjkcfhipjhaaGreatDoorSS12
import Derived.BigQuiet
import Derived.Deep.QuietTactic
import Derived.Test.YthpkjkcfhipjhaaGreatDoorProg
import Derived.Below
import Derived.Deep.Draws
import Derived.Deep.AppendLies
import Derived.Maps.AppendAt
import Derived.OwnWalk
import Derived.Laws.BytesArg
import Derived.Laws.MakeOwn
import Derived.Laws.OwnMore
import Derived.Deep.OwnRows
import Derived.Tactics
import Derived.Lib.ConvBytes
import Derived.Laws.Slices
import Derived.WalkKit
import Derived.KernelRfl
import Derived.RowKit3
import Derived.Deep.LoopGhost
import Derived.WideLaws
import Derived.Deep.DeepCutAuto
import Derived.Deep.CutBlock
import Derived.Deep.RegionHeld3
import Derived.Laws.Rows
import Derived.Lib.AppendStr
import Derived.ArgAppend
import Derived.Laws.IdiomCopy
import Derived.OrdersHeld
import Derived.Laws.BitsLemmas
import Derived.RowKit
section
namespace Go.Proofs.YthpkjkcfhipjhaaGreatDoor.PZB
open Go.RowKit Go.Proofs.YthpkjkcfhipjhaaGreatDoorW.PrintWords Go.Proofs.YthpkjkcfhipjhaaGreatDoorW.PrintLast Go.Proofs.YthpkjkcfhipjhaaGreatDoor.PRW Go.Proofs.YthpkjkcfhipjhaaGreatDoor.PZA Go.Proofs.YthpkjkcfhipjhaaGreatDoor.PZF
set_option linter.unusedVariables false
set_option linter.unusedSimpArgs false
def zset_Neg.l0 : Nat → List (S48) → List (S48) → Int → Int → Option ((List (S48)) × Int)
 | 0,_,_,_,_=>none
 | k + 1,x4,x13,x14,x15=>if x15 < x14 then (if 0 ≤ x15 then (if x15 < (x13.length : Int) then ((xCloneRow.f ((rd_T48 x13 x15).f0)).bind fun t107=>(if x4.length < 4398046511104 then (zset_Neg.l0 k (x4 ++ [(⟨t107,wrap64 (-((rd_T48 x13 x15).f1))⟩ : S48)]) x13 x14 (wrap64 (x15 + 1))) else (none))) else (none)) else (none)) else (some (x4,0))
def zset_Neg.f (k : Nat) (l0 : List (S48)) : Option ((List (S48)) × Int):=(xZSound.f l0).bind fun t101=>(if t101 = true then (if 0 ≤ (l0.length : Int) then (if ((l0.length : Int) : Int).toNat ≤ 8796093022208 then (zset_Neg.l0 k (([] : List (S48))) l0 (l0.length : Int) 0) else (none)) else (none)) else (some (([] : List (S48)),1)))
theorem zset_Neg.mono_l : ∀ k,(∀ y0 y1 y2 y3,LeO (zset_Neg.l0 k y0 y1 y2 y3) (zset_Neg.l0 (k + 1) y0 y1 y2 y3))
 | 0=>fun _ _ _ _ r h=>by simp [zset_Neg.l0] at h
 | k + 1=>by
  have ih0:=zset_Neg.mono_l k
  ·intro y0 y1 y2 y3
   unfold zset_Neg.l0
   repeat' first
   | (with_reducible exact ih0 _ _ _ _)
   | (with_reducible exact LeO.refl _)
   | (with_reducible exact LeO.none _)
   | (with_reducible refine LeO.ite ?_ ?_)
   | (with_reducible refine LeO.bind ?_ (fun _=>?_))
   | exact ih0 _ _ _ _
   | exact LeO.none _
   | refine LeO.ite ?_ ?_
   | refine LeO.bind ?_ (fun _=>?_)
theorem zset_Neg.mono : ∀ a0 k,LeO (zset_Neg.f k a0) (zset_Neg.f (k + 1) a0):=by
 intro a0 k
 have ih0:=zset_Neg.mono_l k
 unfold zset_Neg.f
 repeat' first
   | (with_reducible exact ih0 _ _ _ _)
   | (with_reducible exact LeO.refl _)
   | (with_reducible exact LeO.none _)
   | (with_reducible refine LeO.ite ?_ ?_)
   | (with_reducible refine LeO.bind ?_ (fun _=>?_))
   | exact ih0 _ _ _ _
   | exact LeO.none _
   | refine LeO.ite ?_ ?_
   | refine LeO.bind ?_ (fun _=>?_)
def zset_Neg.T7 : Bool × List (List Nat × List Nat):=(true,[([],[]),([],[]),([1],[1]),([2],[2]),([],[]),([4],[4]),([5],[5]),([3,6],[3,6]),([7],[7]),([0,8,3],[0,8]),([9,9,0,1,2,3,4,5,6,7,8,9],[0,9])])
def zset_Neg.B7 : List Nat:=[0,0,2,6,0,16,48,126,254,511,1023]
theorem zset_Neg.tab7 : rtab .any (opsOf Tryz.f22 7) = zset_Neg.T7:=by kernel_rfl
theorem zset_Neg.bits7 : waitsOk zset_Neg.T7.2 zset_Neg.B7 = true:=by kernel_rfl
set_option maxHeartbeats 8000000 in
set_option maxRecDepth 100000 in
theorem zset_Neg.calls (k : Nat) (A0 : Option Addr) (c0 : Nat) (l0 : List (S48)) (r1 : List (S48)) (r2 : Int) (w : World) (hr0 : Kd.C k48 w A0 l0.length l0) (hc0 : l0.length ≤ c0) (h : zset_Neg.f k l0 = some (r1,r2)) :
  Calls Tryz.prog 22 #[.slice A0 l0.length c0] w fun e w'=>∃ v0_ : Value,e = .returned (.tuple #[v0_,.int .i64 r2]) ∧ Kd.R k48 48 w' w.heap.size (fun _=>True) v0_ r1 ∧ Below w.heap.size w w':=by
 have hu48:=Tryz.underlying48
 have HR0:=Aside0.mk hr0
 have HC0:=Aside0.mk hc0
 clear hr0 hc0
 have HB:=Aside0.mk (Below.refl w.heap.size w)
 have H : ((xZSound.f l0).bind fun t101=>(if t101 = true then (if 0 ≤ (l0.length : Int) then (if ((l0.length : Int) : Int).toNat ≤ 8796093022208 then (zset_Neg.l0 k (([] : List (S48))) l0 (l0.length : Int) 0) else (none)) else (none)) else (some (([] : List (S48)),1)))) = some (r1,r2):=h
 clear h
 replace H:=Option.bind_eq_some_iff.mp H
 obtain ⟨t101,A20,H⟩:=H
 replace H : (if t101 = true then (if 0 ≤ (l0.length : Int) then (if ((l0.length : Int) : Int).toNat ≤ 8796093022208 then (zset_Neg.l0 k (([] : List (S48))) l0 (l0.length : Int) 0) else (none)) else (none)) else (some (([] : List (S48)),1))) = some (r1,r2):=H
 have A2:=Aside0.mk A20
 clear A20
 by_cases c3 : t101 = true
 ·subst c3
  have H1 : (if 0 ≤ (l0.length : Int) then (if ((l0.length : Int) : Int).toNat ≤ 8796093022208 then (zset_Neg.l0 k (([] : List (S48))) l0 (l0.length : Int) 0) else (none)) else (none)) = some (r1,r2):=by rw [if_pos rfl] at H;exact H
  clear H
  have H:=H1
  clear H1
  by_cases c4 : 0 ≤ (l0.length : Int)
  ·rw [if_pos c4] at H
   have c4b0:=eq_true c4
   have c4b1 : decide (0 ≤ (l0.length : Int)) = true:=decide_eq_true c4
   clear c4
   by_cases c5 : ((l0.length : Int) : Int).toNat ≤ 8796093022208
   ·rw [if_pos c5] at H
    have c5b0:=eq_true c5
    have c5b1 : decide (((l0.length : Int) : Int).toNat ≤ 8796093022208) = true:=decide_eq_true c5
    clear c5
    obtain ⟨y102,hy102⟩ : ∃ y_ : List (S48),y_ = (([] : List (S48))):=⟨_,rfl⟩
    replace H : (zset_Neg.l0 k y102 l0 (l0.length : Int) 0) = some (r1,r2):=by first | (rw [hy102];with_reducible exact H) | (have H2_:=(Option.bind_some _ _).symm.trans H;rw [hy102];with_reducible exact H2_) | (have H2_:=(Option.bind_some _ _).symm.trans H;with_reducible exact H2_) | with_reducible exact H | (rw [hy102];exact H) | exact H
    have Ny102:=Aside0.mk hy102
    clear hy102
    have H':=Aside0.mk H
    clear H
    go_enter Tryz.func22,Tryz.ntmps22
    go_wp2_with (first | ((with_reducible refine gate_callee (f:=12) rfl ?_);refine goesL_ (some 8) rfl rfl Tryz.func12 (by kernel_rfl) rfl #[.slice A0 l0.length c0] rfl (by (try simp only [List.map_toArray,List.map_cons,List.map_nil]);first | done | rfl | (simp only [List.length_drop,List.length_take];rfl)) ?_;(with_reducible refine (xZSound.calls _ _ l0 true _ ?side1 ?side2 A2.out).mono ?_);(case side1=>repeat (first | exact HR0.out | (with_reducible refine Kd.C_alloc ?_ _) | (with_reducible refine Kd.C_drewN ?_ _) | (with_reducible refine Kd.C_drew ?_)));(case side2=>exact HC0.out);rintro e w6 ⟨rfl,hb⟩;refine ⟨_,rfl, ?_⟩;have n0_:=Aside0.mk (below_step (by repeat (first | (with_reducible first | exact HB.out | apply below_alloc | apply pw_below_drewN | apply below_drew1) | exact HB.out)) hb);clear HB;have HB:=n0_;clear n0_;(try clear hb);(try clear hb2);(try clear hk);(try clear hi)) | ((with_reducible refine gate_dst (N:=12) rfl ?_);refine Kd.R_make0 k48 _ 48 rfl (N:=12) rfl 26 _ _ rfl (l0.length : Int) rfl rfl Tryz.underlying26 (.agg #[(.slice none 0 0),(.int .i64 0)]) 32 info48 rfl (by decide) (by omega) z48 (ok:=fun _=>True) (okp:=fun _=>True) (k48_mkM _ _ _ z48 (Kd.R_nil _ _ _ _ _)) (fun _ hk=>hk) trivial (of_decide_eq_true (by first | (with_reducible assumption) | assumption)) (Nat.le_trans (Nat.mul_le_mul_right _ (of_decide_eq_true (by first | (with_reducible assumption) | assumption) : (l0.length : Int).toNat ≤ 8796093022208)) (by omega)) (Below.refl _ _) (Nat.le_refl _) ?_;intro v103 w7 ho8 hb hg_ hnew_;clear hg_ hnew_;(first | rw [← Ny102.out] at ho8 | (simp only [Int.reduceToNat] at ho8;rw [← Ny102.out] at ho8));have n0_:=Aside0.mk (Kd.R_lower ho8 (below_size (by repeat (first | (with_reducible first | exact HB.out | apply below_alloc | apply pw_below_drewN | apply below_drew1) | exact HB.out))));have n1_:=Aside0.mk (below_step (by repeat (first | (with_reducible first | exact HB.out | apply below_alloc | apply pw_below_drewN | apply below_drew1) | exact HB.out)) hb);clear HB;have HO104:=n0_;have HB:=n1_;clear n0_ n1_;clear hb ho8))
    go_loopg [4,15] k (fun kq v4 v15 w'=>∃ (x4_1 : List (S48)) (x15_1 : Int),v15 = .int .i64 x15_1 ∧ Aside0 (zset_Neg.l0 kq x4_1 l0 (l0.length : Int) x15_1 = some (r1,r2)) ∧ Aside0 (kq ≤ k) ∧ Aside0 (Kd.R k48 48 w' w.heap.size (fun _=>True) v4 x4_1) ∧ Aside0 (Below w.heap.size w w'))
    case atStart=>exact ⟨(y102),(0),(by first | rfl | (simp;done) | (simp [*];done)),H',⟨Nat.le_refl _⟩,⟨by (with_reducible repeat (first | apply Kd.R_alloc | apply Kd.R_drewN | apply Kd.R_drew));exact HO104.out⟩,⟨by repeat (first | (with_reducible first | exact HB.out | apply below_alloc | apply pw_below_drewN | apply below_drew1) | exact HB.out)⟩⟩
    case round =>
     clear H'
     try clear c1
     try clear c2
     try clear p2
     try clear c3
     try clear c4
     try clear c4b0
     try clear c4b1
     try clear c5
     try clear c5b0
     try clear c5b1
     obtain ⟨x4_1,x15_1,rfl,HA,HK1,HO_4,HB⟩:=hrel
     cases gk with
     | zero=>exact absurd HA.out (by simp [zset_Neg.l0])
     | succ k1 =>
      have H:=HA.out
      clear HA
      simp only [zset_Neg.l0] at H
      by_cases c9 : x15_1 < (l0.length : Int)
      ·rw [if_pos c9] at H
       have c9b0 : decide (x15_1 < (l0.length : Int)) = true:=decide_eq_true c9
       clear c9
       by_cases c10 : 0 ≤ x15_1
       ·rw [if_pos c10] at H
        have c10b0 : decide (0 ≤ x15_1) = true:=decide_eq_true c10
        clear c10
        by_cases c11 : x15_1 < (l0.length : Int)
        ·rw [if_pos c11] at H
         have c11b0 : decide (x15_1 < (l0.length : Int)) = true:=decide_eq_true c11
         clear c11
         replace H:=Option.bind_eq_some_iff.mp H
         obtain ⟨t107,A120,H⟩:=H
         replace H : (if x4_1.length < 4398046511104 then (zset_Neg.l0 k1 (x4_1 ++ [(⟨t107,wrap64 (-((rd_T48 l0 x15_1).f1))⟩ : S48)]) l0 (l0.length : Int) (wrap64 (x15_1 + 1))) else (none)) = some (r1,r2):=H
         have A12:=Aside0.mk A120
         clear A120
         by_cases c13 : x4_1.length < 4398046511104
         ·rw [if_pos c13] at H
          have LMc13:=Aside0.mk c13
          clear c13
          obtain ⟨y110,hy110⟩ : ∃ y_ : List (S48),y_ = (x4_1 ++ [(⟨t107,wrap64 (-((rd_T48 l0 x15_1).f1))⟩ : S48)]):=⟨_,rfl⟩
          replace H : (zset_Neg.l0 k1 y110 l0 (l0.length : Int) (wrap64 (x15_1 + 1))) = some (r1,r2):=by first | (rw [hy110];with_reducible exact H) | (have H2_:=(Option.bind_some _ _).symm.trans H;rw [hy110];with_reducible exact H2_) | (have H2_:=(Option.bind_some _ _).symm.trans H;with_reducible exact H2_) | with_reducible exact H | (rw [hy110];exact H) | exact H
          have Ny110:=Aside0.mk hy110
          clear hy110
          have H':=Aside0.mk H
          clear H
          have p105 : 0 ≤ (x15_1 : Int):=of_decide_eq_true (by first | (with_reducible assumption) | assumption)
          have q105 : x15_1 < (l0.length : Int):=of_decide_eq_true (by first | (with_reducible assumption) | assumption)
          obtain ⟨ad105,A105_0,c105_0,e105,hx105_0,hx105_1,hl105_0,hi105_0⟩:=at_T48 HR0.out x15_1 p105 q105
          cases e105
          replace hx105_0:=(HB.out.cell (World.block_lt_of_cell? w _ hx105_0)).trans hx105_0
          replace hx105_1:=(HB.out.cell (World.block_lt_of_cell? w _ hx105_1)).trans hx105_1
          have HR105_0:=Aside0.mk hi105_0
          have HC105_0:=Aside0.mk hl105_0
          clear hi105_0 hl105_0
          replace p105:=eq_true p105
          replace q105:=eq_true q105
          try go_wp2_with (first | ((with_reducible refine gate_dst (N:=6) rfl ?_);refine box_event ?hg (N:=6) ?hd (cs:=#[.slice none 0 0,.int .i64 0]) (t:=48) ?hr ?_;(case hd=>rfl);(case hg=>rfl);(case hr=>first | (go_simp;done) | (go_simp;rfl));intro gb106 hg w14 hbox hb;have n0_:=Aside0.mk (Kd.R_below (Kd.R_elderB (by (with_reducible repeat (first | apply Kd.R_alloc | apply Kd.R_drewN | apply Kd.R_drew));exact HO_4.out) gb106 (Nat.le_of_eq hg.symm)) hb);have n1_:=Aside0.mk (below_step (by repeat (first | (with_reducible first | exact HB.out | apply below_alloc | apply pw_below_drewN | apply below_drew1) | exact HB.out)) hb);have n2_:=Aside0.mk (hbox);have n3_:=Aside0.mk ((by rw [hg];exact (below_size (by repeat (first | (with_reducible first | exact HB.out | apply below_alloc | apply pw_below_drewN | apply below_drew1) | exact HB.out))) : w.heap.size ≤ gb106));have n4_:=Aside0.mk ((by rw [hg];exact (below_size (by repeat (first | (with_reducible first | exact HB.out | apply below_alloc | apply pw_below_drewN | apply below_drew1) | exact HB.out))) : w.heap.size ≤ gb106));clear HO_4;clear HB;have HO_4:=n0_;have HB:=n1_;have BK106:=n2_;have GW106:=n3_;have GE106:=n4_;clear n0_ n1_ n2_ n3_ n4_;clear hb hbox hg;have hcz15_0 : w14.cell? ⟨gb106,0,none⟩ = some (.slice none 0 0):=(blk_cell BK106.out 0).trans rfl;have hcz15_1 : w14.cell? ⟨gb106,1,none⟩ = some (.int .i64 0):=(blk_cell BK106.out 1).trans rfl;have hfz15_0:=blk_frozen BK106.out 0;have hfz15_1:=blk_frozen BK106.out 1))
          have n0_ : Aside0 (Kd.R k48 48 ((w14.setCell ⟨gb106,0,none⟩ (.slice A105_0 ((rd_T48 l0 x15_1).f0).length c105_0)).setCell ⟨gb106,1,none⟩ (.int .i64 ((rd_T48 l0 x15_1).f1))) w.heap.size (fun k_=>k_ ≠ gb106) u4 x4_1):=⟨by (with_reducible repeat (first | apply Kd.R_alloc | apply Kd.R_drewN | apply Kd.R_drew));exact Kd.R_mono (Kd.R_far (p:=⟨gb106,1,none⟩) (Kd.R_far (p:=⟨gb106,0,none⟩) (Kd.R_mono HO_4.out (fun k_ hk=>(⟨hk,hk.2⟩ : _ ∧ k_ ≠ gb106))) (fun _ hk=>hk.2) (.slice A105_0 ((rd_T48 l0 x15_1).f0).length c105_0)) (fun _ hk=>hk.2) (.int .i64 ((rd_T48 l0 x15_1).f1))) (fun _ hk=>hk.1.2)⟩
          have n1_ : Aside0 (((w14.setCell ⟨gb106,0,none⟩ (.slice A105_0 ((rd_T48 l0 x15_1).f0).length c105_0)).setCell ⟨gb106,1,none⟩ (.int .i64 ((rd_T48 l0 x15_1).f1))).heap[gb106]? = some (.cells #[.slice A105_0 ((rd_T48 l0 x15_1).f0).length c105_0,.int .i64 ((rd_T48 l0 x15_1).f1)] 48 (0,0))):=⟨by (with_reducible repeat (first | refine blk_drewN ?_ _ | refine blk_drew ?_ | refine blk_alloc ?_ _));refine blk_put (cs:=#[.slice A105_0 ((rd_T48 l0 x15_1).f0).length c105_0,.int .i64 0]) ?_ 1 _ rfl;refine blk_put (cs:=#[.slice none 0 0,.int .i64 0]) ?_ 0 _ rfl;(with_reducible repeat (first | refine blk_drewN ?_ _ | refine blk_drew ?_ | refine blk_alloc ?_ _));exact BK106.out⟩
          have n2_ : Aside0 (Below w.heap.size w ((w14.setCell ⟨gb106,0,none⟩ (.slice A105_0 ((rd_T48 l0 x15_1).f0).length c105_0)).setCell ⟨gb106,1,none⟩ (.int .i64 ((rd_T48 l0 x15_1).f1)))):=⟨by repeat (first | (with_reducible first | exact HB.out | apply below_alloc | apply pw_below_drewN | apply below_drew1 | refine below_set ?_ GE106.out) | exact HB.out)⟩
          (try clear HO_4)
          (try clear BK106)
          (try clear HB)
          generalize ((w14.setCell ⟨gb106,0,none⟩ (.slice A105_0 ((rd_T48 l0 x15_1).f0).length c105_0)).setCell ⟨gb106,1,none⟩ (.int .i64 ((rd_T48 l0 x15_1).f1))) = w16 at n0_ n1_ n2_ ⊢
          have HO_4:=n0_
          have BK106:=n1_
          have HB:=n2_
          clear n0_ n1_ n2_
          have n0_:=Aside0.mk (Kd.R_drew HO_4.out)
          have n1_:=Aside0.mk (blk_drew BK106.out)
          have n2_:=Aside0.mk (below_drew1 HB.out)
          clear HO_4
          clear BK106
          clear HB
          have HO_4:=n0_
          have BK106:=n1_
          have HB:=n2_
          clear n0_ n1_ n2_
          refine start_ (n:=11) (S:=fun w'=>w'.cell? ⟨gb106,0,none⟩ = some (.slice A105_0 ((rd_T48 l0 x15_1).f0).length c105_0) ∧ w'.cell? ⟨gb106,1,none⟩ = some (.int .i64 ((rd_T48 l0 x15_1).f1))) (ds:=[]) #[false,false,false,false,false,false,false,false,false,false,false] (by kernel_rfl) rfl rfl ⟨(blk_cell BK106.out 0).trans rfl,(blk_cell BK106.out 1).trans rfl⟩ (fun hHeld=>?_);refine with_tabW zset_Neg.tab7 zset_Neg.bits7 (fun HT_ HW_=>?_)
          generalize w16.drew = w17 at HO_4 BK106 HB hHeld ⊢
          refine pure_ (i:=0) (N:=some 19) (v:=?_) (a':=?_) #[true,false,false,false,false,false,false,false,false,false,false] rfl rfl (any_of HT_.out (by kernel_rfl)) (fun _ _ _ h=>h) (Or.inl ⟨by rfl, ?_⟩) ?_ ?_
          rotate_left
          ·intro w'
           go_simp
           with_reducible rfl
          rotate_left
          ·simp only [Act.put,List.setIfInBounds_toArray,List.set_cons_zero,List.set_cons_succ,i64_w,i32_w]
           rfl
          refine pure_ (i:=1) (N:=some 20) (v:=?_) (a':=?_) #[true,true,false,false,false,false,false,false,false,false,false] rfl rfl (any_of HT_.out (by kernel_rfl)) (fun _ _ _ h=>h) (Or.inl ⟨by rfl, ?_⟩) ?_ ?_
          rotate_left
          ·intro w'
           go_simp
           with_reducible rfl
          rotate_left
          ·simp only [Act.put,List.setIfInBounds_toArray,List.set_cons_zero,List.set_cons_succ,i64_w,i32_w]
           rfl
          refine pure_ (i:=4) (N:=some 23) (v:=?_) (a':=?_) #[true,true,false,false,true,false,false,false,false,false,false] rfl rfl (any_of HT_.out (by kernel_rfl)) (fun _ _ _ h=>h) (Or.inl ⟨by rfl, ?_⟩) ?_ ?_
          rotate_left
          ·intro w'
           go_simp
           with_reducible rfl
          rotate_left
          ·simp only [Act.put,List.setIfInBounds_toArray,List.set_cons_zero,List.set_cons_succ,i64_w,i32_w]
           rfl
          refine take_ (i:=2) (N:=some 21) (v:=?_) (a':=?_) #[true,true,true,false,true,false,false,false,false,false,false] rfl rfl (take_ofW HT_.out HW_.out (by kernel_rfl)) (fun _ _ _ h=>h) (Or.inl ⟨by rfl, ?_⟩) hHeld ?_ ?_
          rotate_left
          ·rintro w' ⟨s0,s1⟩
           go_simp
           with_reducible rfl
          rotate_left
          ·simp only [Act.put,List.setIfInBounds_toArray,List.set_cons_zero,List.set_cons_succ,i64_w,i32_w]
           rfl
          refine take_ (i:=5) (N:=some 24) (v:=?_) (a':=?_) #[true,true,true,false,true,true,false,false,false,false,false] rfl rfl (take_ofW HT_.out HW_.out (by kernel_rfl)) (fun _ _ _ h=>h) (Or.inl ⟨by rfl, ?_⟩) hHeld ?_ ?_
          rotate_left
          ·rintro w' ⟨s0,s1⟩
           go_simp
           with_reducible rfl
          rotate_left
          ·simp only [Act.put,List.setIfInBounds_toArray,List.set_cons_zero,List.set_cons_succ,i64_w,i32_w]
           rfl
          refine pure_ (i:=6) (N:=some 25) (v:=?_) (a':=?_) #[true,true,true,false,true,true,true,false,false,false,false] rfl rfl (any_of HT_.out (by kernel_rfl)) (fun _ _ _ h=>h) (Or.inl ⟨by rfl, ?_⟩) ?_ ?_
          rotate_left
          ·intro w'
           go_simp
           with_reducible rfl
          rotate_left
          ·simp only [Act.put,List.setIfInBounds_toArray,List.set_cons_zero,List.set_cons_succ,i64_w,i32_w]
           rfl
          refine one_ (i:=3) (N:=some 22) #[true,true,true,true,true,true,true,false,false,false,false] rfl rfl (one_of HT_.out (by kernel_rfl)) (by decide) (fun K hK=>?_)
          refine goes_ Tryz.func45 (by kernel_rfl) rfl #[.slice A105_0 ((rd_T48 l0 x15_1).f0).length c105_0] (by rfl) rfl rfl (by (try simp only [List.map_toArray,List.map_cons,List.map_nil]);first | done | rfl | (simp only [List.length_drop,List.length_take];rfl)) ?_
          with_reducible refine (xCloneRow.calls _ _ ((rd_T48 l0 x15_1).f0) t107 _ ?side1 ?side2 A12.out).mono ?_
          (case side1=>repeat (first | exact (Kd.C_below HR105_0.out HB.out) | (with_reducible refine Kd.C_alloc ?_ _) | (with_reducible refine Kd.C_drewN ?_ _) | (with_reducible refine Kd.C_drew ?_)))
          (case side2=>exact HC105_0.out)
          rintro e w18 ⟨v108,rfl,ho0,hb⟩
          refine ⟨_,rfl, ?_⟩
          have n0_:=Aside0.mk (Kd.R_elder' (by (with_reducible repeat (first | apply Kd.R_alloc | apply Kd.R_drewN | apply Kd.R_drew));exact HO_4.out) (Kd.R_base ho0) hb)
          have n1_:=Aside0.mk (Kd.R_lower ho0 (below_size (by repeat (first | (with_reducible first | exact HB.out | apply below_alloc | apply pw_below_drewN | apply below_drew1 | refine below_set ?_ GE106.out) | exact HB.out))))
          have n2_:=Aside0.mk (blk_below (g:=gb106) (o:=.cells #[.slice A105_0 ((rd_T48 l0 x15_1).f0).length c105_0,.int .i64 ((rd_T48 l0 x15_1).f1)] 48 (0,0)) (by (with_reducible repeat (first | refine blk_drewN ?_ _ | refine blk_drew ?_ | refine blk_alloc ?_ _));exact BK106.out) hb)
          have n3_:=Aside0.mk (below_step (by repeat (first | (with_reducible first | exact HB.out | apply below_alloc | apply pw_below_drewN | apply below_drew1 | refine below_set ?_ GE106.out) | exact HB.out)) hb)
          clear HO_4
          clear BK106
          clear HB
          have HO_4:=n0_
          have HO109:=n1_
          have BK106:=n2_
          have HB:=n3_
          clear n0_ n1_ n2_ n3_
          (try clear hb)
          (try clear hb2)
          (try clear hk)
          (try clear hi)
          (try clear ho0)
          obtain ⟨Ao19,co19,eo19⟩:=Kd.R_slice HO109.out
          (first | subst eo19 | (injection eo19 with f1_ f2_ f3_;have f4_:=f1_.symm;have f5_:=f3_.symm;clear f1_ f2_ f3_;subst f4_;subst f5_))
          refine hK.out _ _ ⟨(blk_cell BK106.out 0).trans rfl,(blk_cell BK106.out 1).trans rfl⟩ (fun hHeld=>?_)
          clear hK K
          refine norm_ (a':=?_) ?_ ?_
          rotate_left
          ·show Act.put _ (some 22) _ = _
           simp only [Act.put,List.setIfInBounds_toArray,List.set_cons_zero,List.set_cons_succ,i64_w,i32_w]
           rfl
          refine pure_ (i:=7) (N:=some 26) (v:=?_) (a':=?_) #[true,true,true,true,true,true,true,true,false,false,false] rfl rfl (any_of HT_.out (by kernel_rfl)) (fun _ _ _ h=>h) (Or.inl ⟨by rfl, ?_⟩) ?_ ?_
          rotate_left
          ·intro w'
           go_simp
           with_reducible rfl
          rotate_left
          ·simp only [Act.put,List.setIfInBounds_toArray,List.set_cons_zero,List.set_cons_succ,i64_w,i32_w]
           rfl
          refine one_ (i:=8) (N:=some 27) #[true,true,true,true,true,true,true,true,true,false,false] rfl rfl (one_of HT_.out (by kernel_rfl)) (by decide) (fun K hK=>?_)
          refine value_ (w1:=?_) (v:=?_) (by rfl) rfl ?_ ?_
          rotate_left 2
          ·go_simp
           constructor
           ·rfl
           ·rfl
          refine hK.out _ _ ⟨(blk_cell (blk_alloc BK106.out _) 0).trans rfl,(blk_cell (blk_alloc BK106.out _) 1).trans rfl⟩ (fun hHeld=>?_)
          clear hK K
          refine norm_ (a':=?_) ?_ ?_
          rotate_left
          ·show Act.put _ (some 27) _ = _
           simp only [Act.put,List.setIfInBounds_toArray,List.set_cons_zero,List.set_cons_succ,i64_w,i32_w]
           rfl
          refine one_ (i:=9) (N:=some 28) #[true,true,true,true,true,true,true,true,true,true,false] rfl rfl (one_of HT_.out (by kernel_rfl)) (by decide) (fun K hK=>?_)
          refine Kd.R_append_step k48 (w0:=w) w.heap.size (by rfl) (.tmp 19) (.tmp 27) 26 48 (.agg #[(.slice none 0 0),(.int .i64 0)]) 32 rfl Tryz.underlying26 info48 rfl (by decide) (by omega) u4 x4_1 (⟨t107,wrap64 (-((rd_T48 l0 x15_1).f1))⟩ : S48) [.slice Ao19 t107.length co19,.int .i64 (wrap64 (-((rd_T48 l0 x15_1).f1)))] (fun k_=>k_ ≠ gb106) (fun k_=>((fun k_=>k_ ≠ gb106)) k_ ∧ some k_ ≠ (u4 : Value).ownBlock) rfl rfl ?aP (fun _ hk=>hk) ?aF ?aO ?aB ?aS ?aL ?_
          (case aP=>exact k48_mkM _ _ _ (⟨t107,wrap64 (-((rd_T48 l0 x15_1).f1))⟩ : S48) (Kd.R_mono (Kd.R_types (Kd.R_apart' (HO109.out) (Kd.R_typed HO_4.out) (by decide)) BK106.out (by decide)) (fun k_ hk=>⟨hk.2,hk.1.2⟩)))
          (case aB=>exact (by repeat (first | (with_reducible first | exact HB.out | apply below_alloc | apply pw_below_drewN | apply below_drew1 | refine below_set ?_ GE106.out) | exact HB.out)))
          (case aF=>exact (fun k_ hk=>Kd.freshB (g:=gb106) (o:=.cells #[.slice A105_0 ((rd_T48 l0 x15_1).f0).length c105_0,.int .i64 ((rd_T48 l0 x15_1).f1)] 48 (0,0)) (by (with_reducible repeat (first | refine blk_drewN ?_ _ | refine blk_drew ?_ | refine blk_alloc ?_ _));exact BK106.out) k_ hk))
          (case aO=>exact (by (with_reducible repeat (first | apply Kd.R_alloc | apply Kd.R_drewN | apply Kd.R_drew));exact Kd.R_mono HO_4.out (fun _ hk=>hk.1)))
          (case aS=>exact (below_size (by repeat (first | (with_reducible first | exact HB.out | apply below_alloc | apply pw_below_drewN | apply below_drew1 | refine below_set ?_ GE106.out) | exact HB.out))))
          (case aL=>have:=LMc13.out;omega)
          intro v111 w20 ho hb hg hat
          rw [← Ny110.out] at ho
          have n0_:=Aside0.mk (blk_grown (g:=gb106) (o:=.cells #[.slice A105_0 ((rd_T48 l0 x15_1).f0).length c105_0,.int .i64 ((rd_T48 l0 x15_1).f1)] 48 (0,0)) (by (with_reducible repeat (first | refine blk_drewN ?_ _ | refine blk_drew ?_ | refine blk_alloc ?_ _));exact BK106.out) hg (Kd.R_away HO_4.out (fun _ hk=>hk.1)))
          have n1_:=Aside0.mk (hb)
          have n2_:=Aside0.mk (ho)
          clear BK106
          clear HB
          clear HO_4
          clear HO109
          have BK106:=n0_
          have HB:=n1_
          have HO112:=n2_
          clear n0_ n1_ n2_
          clear ho hb hg hat
          refine hK.out _ _ ⟨(blk_cell BK106.out 0).trans rfl,(blk_cell BK106.out 1).trans rfl⟩ (fun hHeld=>?_)
          clear hK K
          refine norm_ (a':=?_) ?_ ?_
          rotate_left
          ·show Act.put _ (some 28) _ = _
           simp only [Act.put,List.setIfInBounds_toArray,List.set_cons_zero,List.set_cons_succ,i64_w,i32_w]
           rfl
          refine pure_ (i:=10) (N:=some 4) (v:=?_) (a':=?_) #[true,true,true,true,true,true,true,true,true,true,true] rfl rfl (any_of HT_.out (by kernel_rfl)) (fun _ _ _ h=>h) (Or.inl ⟨by rfl, ?_⟩) ?_ ?_
          rotate_left
          ·intro w'
           go_simp
           with_reducible rfl
          rotate_left
          ·simp only [Act.put,List.setIfInBounds_toArray,List.set_cons_zero,List.set_cons_succ,i64_w,i32_w]
           rfl
          refine done_ (done_of HT_.out (by kernel_rfl)) ?_
          try go_wp2
          go_roundg k1
          case measure=>have:=HK1.out;omega
          case rel=>exact ⟨(y110),(wrap64 (x15_1 + 1)),(by first | rfl | (simp;done) | (simp [*];done)),H',⟨by have:=HK1.out;omega⟩,⟨by (with_reducible repeat (first | apply Kd.R_alloc | apply Kd.R_drewN | apply Kd.R_drew));exact Kd.R_mono HO112.out (fun _ hk=>trivial)⟩,⟨by repeat (first | (with_reducible first | exact HB.out | apply below_alloc | apply pw_below_drewN | apply below_drew1 | refine below_set ?_ GE106.out) | exact HB.out)⟩⟩
         ·rw [if_neg c13] at H
          exact absurd H (by simp)
        ·rw [if_neg c11] at H
         exact absurd H (by simp)
       ·rw [if_neg c10] at H
        exact absurd H (by simp)
      ·rw [if_neg c9] at H
       have c9b0 : decide (x15_1 < (l0.length : Int)) = false:=decide_eq_false c9
       clear c9
       simp only [Option.some.injEq,Prod.mk.injEq] at H
       obtain ⟨rfl,rfl⟩:=H
       go_wp2
       go_ret2
       exact ⟨_,by first | rfl | (simp [errW_none,errW_some] <;> rfl) | (simp [*,errW_none,errW_some] <;> rfl),by (with_reducible repeat (first | apply Kd.R_alloc | apply Kd.R_drewN | apply Kd.R_drew));exact HO_4.out,by repeat (first | (with_reducible first | exact HB.out | apply below_alloc | apply pw_below_drewN | apply below_drew1) | exact HB.out)⟩
   ·rw [if_neg c5] at H
    exact absurd H (by simp)
  ·rw [if_neg c4] at H
   exact absurd H (by simp)
 ·replace c3:=Bool.eq_false_iff.mpr c3
  subst c3
  have H1 : (some (([] : List (S48)),1)) = some (r1,r2):=by rw [if_neg (show ¬ (false = true) by decide)] at H;exact H
  clear H
  have H:=H1
  clear H1
  simp only [Option.some.injEq,Prod.mk.injEq] at H
  obtain ⟨rfl,rfl⟩:=H
  go_enter Tryz.func22,Tryz.ntmps22
  go_wp2_with (first | ((with_reducible refine gate_callee (f:=12) rfl ?_);refine goesL_ (some 8) rfl rfl Tryz.func12 (by kernel_rfl) rfl #[.slice A0 l0.length c0] rfl (by (try simp only [List.map_toArray,List.map_cons,List.map_nil]);first | done | rfl | (simp only [List.length_drop,List.length_take];rfl)) ?_;(with_reducible refine (xZSound.calls _ _ l0 false _ ?side1 ?side2 A2.out).mono ?_);(case side1=>repeat (first | exact HR0.out | (with_reducible refine Kd.C_alloc ?_ _) | (with_reducible refine Kd.C_drewN ?_ _) | (with_reducible refine Kd.C_drew ?_)));(case side2=>exact HC0.out);rintro e w21 ⟨rfl,hb⟩;refine ⟨_,rfl, ?_⟩;have n0_:=Aside0.mk (below_step (by repeat (first | (with_reducible first | exact HB.out | apply below_alloc | apply pw_below_drewN | apply below_drew1) | exact HB.out)) hb);clear HB;have HB:=n0_;clear n0_;(try clear hb);(try clear hb2);(try clear hk);(try clear hi)))
  go_ret2
  exact ⟨_,by first | rfl | (simp [errW_none,errW_some] <;> rfl) | (simp [*,errW_none,errW_some] <;> rfl),by first | exact Kd.R_nil _ _ _ _ _ | exact Kd.N_nil _ _ _ _ _ | exact Kd.V_nil _ _ _ _ _ | exact Kd.Q_nil _ _ _ _ _ | exact Kd.S_nil _ _ _ _ _,by repeat (first | (with_reducible first | exact HB.out | apply below_alloc | apply pw_below_drewN | apply below_drew1) | exact HB.out)⟩
def zset_Distinct.l0 : Nat → List (S48) → List (S48) → Int → Int → Option ((List (S48)) × Int)
 | 0,_,_,_,_=>none
 | k + 1,x4,x10,x11,x12=>if x12 < x11 then (if 0 ≤ x12 then (if x12 < (x10.length : Int) then (if ((rd_T48 x10 x12).f1) > 0 then ((xCloneRow.f ((rd_T48 x10 x12).f0)).bind fun t116=>(if x4.length < 4398046511104 then (zset_Distinct.l0 k (x4 ++ [(⟨t116,1⟩ : S48)]) x10 x11 (wrap64 (x12 + 1))) else (none))) else (zset_Distinct.l0 k x4 x10 x11 (wrap64 (x12 + 1)))) else (none)) else (none)) else (some (x4,0))
def zset_Distinct.f (k : Nat) (l0 : List (S48)) : Option ((List (S48)) × Int):=(xZSound.f l0).bind fun t113=>(if t113 = true then (zset_Distinct.l0 k ([] : List (S48)) l0 (l0.length : Int) 0) else (some (([] : List (S48)),1)))
theorem zset_Distinct.mono_l : ∀ k,(∀ y0 y1 y2 y3,LeO (zset_Distinct.l0 k y0 y1 y2 y3) (zset_Distinct.l0 (k + 1) y0 y1 y2 y3))
 | 0=>fun _ _ _ _ r h=>by simp [zset_Distinct.l0] at h
 | k + 1=>by
  have ih0:=zset_Distinct.mono_l k
  ·intro y0 y1 y2 y3
   unfold zset_Distinct.l0
   repeat' first
   | (with_reducible exact ih0 _ _ _ _)
   | (with_reducible exact LeO.refl _)
   | (with_reducible exact LeO.none _)
   | (with_reducible refine LeO.ite ?_ ?_)
   | (with_reducible refine LeO.bind ?_ (fun _=>?_))
   | exact ih0 _ _ _ _
   | exact LeO.none _
   | refine LeO.ite ?_ ?_
   | refine LeO.bind ?_ (fun _=>?_)
theorem zset_Distinct.mono : ∀ a0 k,LeO (zset_Distinct.f k a0) (zset_Distinct.f (k + 1) a0):=by
 intro a0 k
 have ih0:=zset_Distinct.mono_l k
 unfold zset_Distinct.f
 repeat' first
   | (with_reducible exact ih0 _ _ _ _)
   | (with_reducible exact LeO.refl _)
   | (with_reducible exact LeO.none _)
   | (with_reducible refine LeO.ite ?_ ?_)
   | (with_reducible refine LeO.bind ?_ (fun _=>?_))
   | exact ih0 _ _ _ _
   | exact LeO.none _
   | refine LeO.ite ?_ ?_
   | refine LeO.bind ?_ (fun _=>?_)
set_option maxHeartbeats 8000000 in
set_option maxRecDepth 100000 in
theorem zset_Distinct.calls (k : Nat) (A0 : Option Addr) (c0 : Nat) (l0 : List (S48)) (r1 : List (S48)) (r2 : Int) (w : World) (hr0 : Kd.C k48 w A0 l0.length l0) (hc0 : l0.length ≤ c0) (h : zset_Distinct.f k l0 = some (r1,r2)) :
  Calls Tryz.prog 9 #[.slice A0 l0.length c0] w fun e w'=>∃ v0_ : Value,e = .returned (.tuple #[v0_,.int .i64 r2]) ∧ Kd.R k48 48 w' w.heap.size (fun _=>True) v0_ r1 ∧ Below w.heap.size w w':=by
 have hu48:=Tryz.underlying48
 have HR0:=Aside0.mk hr0
 have HC0:=Aside0.mk hc0
 clear hr0 hc0
 have HB:=Aside0.mk (Below.refl w.heap.size w)
 have H : ((xZSound.f l0).bind fun t113=>(if t113 = true then (zset_Distinct.l0 k ([] : List (S48)) l0 (l0.length : Int) 0) else (some (([] : List (S48)),1)))) = some (r1,r2):=h
 clear h
 replace H:=Option.bind_eq_some_iff.mp H
 obtain ⟨t113,A20,H⟩:=H
 replace H : (if t113 = true then (zset_Distinct.l0 k ([] : List (S48)) l0 (l0.length : Int) 0) else (some (([] : List (S48)),1))) = some (r1,r2):=H
 have A2:=Aside0.mk A20
 clear A20
 by_cases c3 : t113 = true
 ·subst c3
  have H1 : (zset_Distinct.l0 k ([] : List (S48)) l0 (l0.length : Int) 0) = some (r1,r2):=by rw [if_pos rfl] at H;exact H
  clear H
  have H:=H1
  clear H1
  have H':=Aside0.mk H
  clear H
  go_enter Tryz.func9,Tryz.ntmps9
  go_wp2_with (first | ((with_reducible refine gate_callee (f:=12) rfl ?_);refine goesL_ (some 8) rfl rfl Tryz.func12 (by kernel_rfl) rfl #[.slice A0 l0.length c0] rfl (by (try simp only [List.map_toArray,List.map_cons,List.map_nil]);first | done | rfl | (simp only [List.length_drop,List.length_take];rfl)) ?_;(with_reducible refine (xZSound.calls _ _ l0 true _ ?side1 ?side2 A2.out).mono ?_);(case side1=>repeat (first | exact HR0.out | (with_reducible refine Kd.C_alloc ?_ _) | (with_reducible refine Kd.C_drewN ?_ _) | (with_reducible refine Kd.C_drew ?_)));(case side2=>exact HC0.out);rintro e w4 ⟨rfl,hb⟩;refine ⟨_,rfl, ?_⟩;have n0_:=Aside0.mk (below_step (by repeat (first | (with_reducible first | exact HB.out | apply below_alloc | apply pw_below_drewN | apply below_drew1) | exact HB.out)) hb);clear HB;have HB:=n0_;clear n0_;(try clear hb);(try clear hb2);(try clear hk);(try clear hi)))
  go_loopg [4,12] k (fun kq v4 v12 w'=>∃ (x4_1 : List (S48)) (x12_1 : Int),v12 = .int .i64 x12_1 ∧ Aside0 (zset_Distinct.l0 kq x4_1 l0 (l0.length : Int) x12_1 = some (r1,r2)) ∧ Aside0 (kq ≤ k) ∧ Aside0 (Kd.R k48 48 w' w.heap.size (fun _=>True) v4 x4_1) ∧ Aside0 (Below w.heap.size w w'))
  case atStart=>exact ⟨(([] : List (S48))),(0),(by first | rfl | (simp;done) | (simp [*];done)),H',⟨Nat.le_refl _⟩,⟨by first | exact Kd.R_nil _ _ _ _ _ | exact Kd.N_nil _ _ _ _ _ | exact Kd.V_nil _ _ _ _ _ | exact Kd.Q_nil _ _ _ _ _ | exact Kd.S_nil _ _ _ _ _⟩,⟨by repeat (first | (with_reducible first | exact HB.out | apply below_alloc | apply pw_below_drewN | apply below_drew1) | exact HB.out)⟩⟩
  case round =>
   clear H'
   try clear c1
   try clear p2
   try clear c3
   obtain ⟨x4_1,x12_1,rfl,HA,HK1,HO_4,HB⟩:=hrel
   cases gk with
   | zero=>exact absurd HA.out (by simp [zset_Distinct.l0])
   | succ k1 =>
    have H:=HA.out
    clear HA
    simp only [zset_Distinct.l0] at H
    by_cases c5 : x12_1 < (l0.length : Int)
    ·rw [if_pos c5] at H
     have c5b0 : decide (x12_1 < (l0.length : Int)) = true:=decide_eq_true c5
     clear c5
     by_cases c6 : 0 ≤ x12_1
     ·rw [if_pos c6] at H
      have c6b0 : decide (0 ≤ x12_1) = true:=decide_eq_true c6
      clear c6
      by_cases c7 : x12_1 < (l0.length : Int)
      ·rw [if_pos c7] at H
       have c7b0 : decide (x12_1 < (l0.length : Int)) = true:=decide_eq_true c7
       clear c7
       by_cases c8 : ((rd_T48 l0 x12_1).f1) > 0
       ·rw [if_pos c8] at H
        have c8b0 : decide (0 < ((rd_T48 l0 x12_1).f1)) = true:=decide_eq_true c8
        clear c8
        replace H:=Option.bind_eq_some_iff.mp H
        obtain ⟨t116,A90,H⟩:=H
        replace H : (if x4_1.length < 4398046511104 then (zset_Distinct.l0 k1 (x4_1 ++ [(⟨t116,1⟩ : S48)]) l0 (l0.length : Int) (wrap64 (x12_1 + 1))) else (none)) = some (r1,r2):=H
        have A9:=Aside0.mk A90
        clear A90
        by_cases c10 : x4_1.length < 4398046511104
        ·rw [if_pos c10] at H
         have LMc10:=Aside0.mk c10
         clear c10
         obtain ⟨y119,hy119⟩ : ∃ y_ : List (S48),y_ = (x4_1 ++ [(⟨t116,1⟩ : S48)]):=⟨_,rfl⟩
         replace H : (zset_Distinct.l0 k1 y119 l0 (l0.length : Int) (wrap64 (x12_1 + 1))) = some (r1,r2):=by first | (rw [hy119];with_reducible exact H) | (have H2_:=(Option.bind_some _ _).symm.trans H;rw [hy119];with_reducible exact H2_) | (have H2_:=(Option.bind_some _ _).symm.trans H;with_reducible exact H2_) | with_reducible exact H | (rw [hy119];exact H) | exact H
         have Ny119:=Aside0.mk hy119
         clear hy119
         have H':=Aside0.mk H
         clear H
         have p114 : 0 ≤ (x12_1 : Int):=of_decide_eq_true (by first | (with_reducible assumption) | assumption)
         have q114 : x12_1 < (l0.length : Int):=of_decide_eq_true (by first | (with_reducible assumption) | assumption)
         obtain ⟨ad114,A114_0,c114_0,e114,hx114_0,hx114_1,hl114_0,hi114_0⟩:=at_T48 HR0.out x12_1 p114 q114
         cases e114
         replace hx114_0:=(HB.out.cell (World.block_lt_of_cell? w _ hx114_0)).trans hx114_0
         replace hx114_1:=(HB.out.cell (World.block_lt_of_cell? w _ hx114_1)).trans hx114_1
         have HR114_0:=Aside0.mk hi114_0
         have HC114_0:=Aside0.mk hl114_0
         clear hi114_0 hl114_0
         replace p114:=eq_true p114
         replace q114:=eq_true q114
         go_wp2_with (first | ((with_reducible refine gate_dst (N:=6) rfl ?_);refine box_event ?hg (N:=6) ?hd (cs:=#[.slice none 0 0,.int .i64 0]) (t:=48) ?hr ?_;(case hd=>rfl);(case hg=>rfl);(case hr=>first | (go_simp;done) | (go_simp;rfl));intro gb115 hg w11 hbox hb;have n0_:=Aside0.mk (Kd.R_below (Kd.R_elderB (by (with_reducible repeat (first | apply Kd.R_alloc | apply Kd.R_drewN | apply Kd.R_drew));exact HO_4.out) gb115 (Nat.le_of_eq hg.symm)) hb);have n1_:=Aside0.mk (below_step (by repeat (first | (with_reducible first | exact HB.out | apply below_alloc | apply pw_below_drewN | apply below_drew1) | exact HB.out)) hb);have n2_:=Aside0.mk (hbox);have n3_:=Aside0.mk ((by rw [hg];exact (below_size (by repeat (first | (with_reducible first | exact HB.out | apply below_alloc | apply pw_below_drewN | apply below_drew1) | exact HB.out))) : w.heap.size ≤ gb115));have n4_:=Aside0.mk ((by rw [hg];exact (below_size (by repeat (first | (with_reducible first | exact HB.out | apply below_alloc | apply pw_below_drewN | apply below_drew1) | exact HB.out))) : w.heap.size ≤ gb115));clear HO_4;clear HB;have HO_4:=n0_;have HB:=n1_;have BK115:=n2_;have GW115:=n3_;have GE115:=n4_;clear n0_ n1_ n2_ n3_ n4_;clear hb hbox hg;have hcz12_0 : w11.cell? ⟨gb115,0,none⟩ = some (.slice none 0 0):=(blk_cell BK115.out 0).trans rfl;have hcz12_1 : w11.cell? ⟨gb115,1,none⟩ = some (.int .i64 0):=(blk_cell BK115.out 1).trans rfl;have hfz12_0:=blk_frozen BK115.out 0;have hfz12_1:=blk_frozen BK115.out 1) | ((with_reducible refine gate_callee (f:=45) rfl ?_);refine goesL_ (some 22) rfl rfl Tryz.func45 (by kernel_rfl) rfl #[.slice A114_0 ((rd_T48 l0 x12_1).f0).length c114_0] rfl (by (try simp only [List.map_toArray,List.map_cons,List.map_nil]);first | done | rfl | (simp only [List.length_drop,List.length_take];rfl)) ?_;(with_reducible refine (xCloneRow.calls _ _ ((rd_T48 l0 x12_1).f0) t116 _ ?side1 ?side2 A9.out).mono ?_);(case side1=>exact Kd.C_below HR114_0.out (by repeat (first | (with_reducible first | exact HB.out | apply below_alloc | apply pw_below_drewN | apply below_drew1 | refine below_set ?_ GE115.out) | exact HB.out)));(case side2=>exact HC114_0.out);rintro e w13 ⟨v117,rfl,ho0,hb⟩;refine ⟨_,rfl, ?_⟩;have n0_:=Aside0.mk (Kd.R_elder' (by (with_reducible repeat (first | apply Kd.R_alloc | apply Kd.R_drewN | apply Kd.R_drew));exact (Kd.R_mono (Kd.R_far (p:=⟨gb115,1,none⟩) (Kd.R_far (p:=⟨gb115,0,none⟩) (Kd.R_mono HO_4.out (fun k_ hk=>(⟨hk,hk.2⟩ : _ ∧ k_ ≠ gb115))) (fun _ hk=>hk.2) (.slice A114_0 ((rd_T48 l0 x12_1).f0).length c114_0)) (fun _ hk=>hk.2) (.int .i64 ((rd_T48 l0 x12_1).f1))) (fun _ h_=>h_.1))) (Kd.R_base ho0) hb);have n1_:=Aside0.mk (Kd.R_lower ho0 (below_size (by repeat (first | (with_reducible first | exact HB.out | apply below_alloc | apply pw_below_drewN | apply below_drew1 | refine below_set ?_ GE115.out) | exact HB.out))));have n2_:=Aside0.mk (blk_below (g:=gb115) (o:=.cells #[.slice A114_0 ((rd_T48 l0 x12_1).f0).length c114_0,.int .i64 ((rd_T48 l0 x12_1).f1)] 48 (0,0)) (by (with_reducible repeat (first | refine blk_drewN ?_ _ | refine blk_drew ?_ | refine blk_alloc ?_ _));refine blk_put (cs:=#[.slice A114_0 ((rd_T48 l0 x12_1).f0).length c114_0,.int .i64 0]) ?_ 1 _ rfl;refine blk_put (cs:=#[.slice none 0 0,.int .i64 0]) ?_ 0 _ rfl;(with_reducible repeat (first | refine blk_drewN ?_ _ | refine blk_drew ?_ | refine blk_alloc ?_ _));exact BK115.out) hb);have n3_:=Aside0.mk (below_step (by repeat (first | (with_reducible first | exact HB.out | apply below_alloc | apply pw_below_drewN | apply below_drew1 | refine below_set ?_ GE115.out) | exact HB.out)) hb);clear HO_4;clear BK115;clear HB;have HO_4:=n0_;have HO118:=n1_;have BK115:=n2_;have HB:=n3_;clear n0_ n1_ n2_ n3_;(try clear hb);(try clear hb2);(try clear hk);(try clear hi);(try clear ho0);obtain ⟨Ao14,co14,eo14⟩:=Kd.R_slice HO118.out;subst eo14) | ((with_reducible refine gate_builtin (b:=.append) (xs:=#[.tmp 19,.tmp 24]) rfl ?_);at_builtin;refine Kd.R_append k48 (w0:=w) w.heap.size rfl (.tmp 19) (.tmp 24) 26 48 (.agg #[(.slice none 0 0),(.int .i64 0)]) 32 rfl Tryz.underlying26 info48 rfl (by decide) (by omega) u4 x4_1 (⟨t116,1⟩ : S48) [.slice Ao14 t116.length co14,.int .i64 1] (fun k_=>k_ ≠ gb115) (fun k_=>((fun k_=>k_ ≠ gb115)) k_ ∧ some k_ ≠ (u4 : Value).ownBlock) rfl rfl ?aP (fun _ hk=>hk) ?aF ?aO ?aB ?aS ?aL ?_;(case aP=>exact k48_mkM _ _ _ (⟨t116,1⟩ : S48) (Kd.R_mono (Kd.R_types (Kd.R_apart' (HO118.out) (Kd.R_typed HO_4.out) (by decide)) BK115.out (by decide)) (fun k_ hk=>⟨hk.2,hk.1.2⟩)));(case aB=>exact (by repeat (first | (with_reducible first | exact HB.out | apply below_alloc | apply pw_below_drewN | apply below_drew1 | refine below_set ?_ GE115.out) | exact HB.out)));(case aF=>exact (fun k_ hk=>Kd.freshB (g:=gb115) (o:=.cells #[.slice A114_0 ((rd_T48 l0 x12_1).f0).length c114_0,.int .i64 ((rd_T48 l0 x12_1).f1)] 48 (0,0)) (by (with_reducible repeat (first | refine blk_drewN ?_ _ | refine blk_drew ?_ | refine blk_alloc ?_ _));exact BK115.out) k_ hk));(case aO=>exact (by (with_reducible repeat (first | apply Kd.R_alloc | apply Kd.R_drewN | apply Kd.R_drew));exact Kd.R_mono HO_4.out (fun _ hk=>hk.1.2)));(case aS=>exact (below_size (by repeat (first | (with_reducible first | exact HB.out | apply below_alloc | apply pw_below_drewN | apply below_drew1 | refine below_set ?_ GE115.out) | exact HB.out))));(case aL=>have:=LMc10.out;omega);intro v120 w15 ho hb hg hat;rw [← Ny119.out] at ho;have n0_:=Aside0.mk (blk_grown (g:=gb115) (o:=.cells #[.slice A114_0 ((rd_T48 l0 x12_1).f0).length c114_0,.int .i64 ((rd_T48 l0 x12_1).f1)] 48 (0,0)) (by (with_reducible repeat (first | refine blk_drewN ?_ _ | refine blk_drew ?_ | refine blk_alloc ?_ _));exact BK115.out) hg (Kd.R_away HO_4.out (fun _ hk=>hk.1.2)));have n1_:=Aside0.mk (hb);have n2_:=Aside0.mk (ho);clear BK115;clear HB;clear HO_4;clear HO118;have BK115:=n0_;have HB:=n1_;have HO121:=n2_;clear n0_ n1_ n2_;clear ho hb hg hat))
         go_roundg k1
         case measure=>have:=HK1.out;omega
         case rel=>exact ⟨(y119),(wrap64 (x12_1 + 1)),(by first | rfl | (simp;done) | (simp [*];done)),H',⟨by have:=HK1.out;omega⟩,⟨by (with_reducible repeat (first | apply Kd.R_alloc | apply Kd.R_drewN | apply Kd.R_drew));exact Kd.R_mono HO121.out (fun _ hk=>trivial)⟩,⟨by repeat (first | (with_reducible first | exact HB.out | apply below_alloc | apply pw_below_drewN | apply below_drew1 | refine below_set ?_ GE115.out) | exact HB.out)⟩⟩
        ·rw [if_neg c10] at H
         exact absurd H (by simp)
       ·rw [if_neg c8] at H
        have c8b0 : decide (0 < ((rd_T48 l0 x12_1).f1)) = false:=decide_eq_false c8
        clear c8
        have H':=Aside0.mk H
        clear H
        have p114 : 0 ≤ (x12_1 : Int):=of_decide_eq_true (by first | (with_reducible assumption) | assumption)
        have q114 : x12_1 < (l0.length : Int):=of_decide_eq_true (by first | (with_reducible assumption) | assumption)
        obtain ⟨ad114,A114_0,c114_0,e114,hx114_0,hx114_1,hl114_0,hi114_0⟩:=at_T48 HR0.out x12_1 p114 q114
        cases e114
        replace hx114_0:=(HB.out.cell (World.block_lt_of_cell? w _ hx114_0)).trans hx114_0
        replace hx114_1:=(HB.out.cell (World.block_lt_of_cell? w _ hx114_1)).trans hx114_1
        have HR114_0:=Aside0.mk hi114_0
        have HC114_0:=Aside0.mk hl114_0
        clear hi114_0 hl114_0
        replace p114:=eq_true p114
        replace q114:=eq_true q114
        go_wp2_with (first | ((with_reducible refine gate_dst (N:=6) rfl ?_);refine box_event ?hg (N:=6) ?hd (cs:=#[.slice none 0 0,.int .i64 0]) (t:=48) ?hr ?_;(case hd=>rfl);(case hg=>rfl);(case hr=>first | (go_simp;done) | (go_simp;rfl));intro gb115 hg w16 hbox hb;have n0_:=Aside0.mk (Kd.R_below (Kd.R_elderB (by (with_reducible repeat (first | apply Kd.R_alloc | apply Kd.R_drewN | apply Kd.R_drew));exact HO_4.out) gb115 (Nat.le_of_eq hg.symm)) hb);have n1_:=Aside0.mk (below_step (by repeat (first | (with_reducible first | exact HB.out | apply below_alloc | apply pw_below_drewN | apply below_drew1) | exact HB.out)) hb);have n2_:=Aside0.mk (hbox);have n3_:=Aside0.mk ((by rw [hg];exact (below_size (by repeat (first | (with_reducible first | exact HB.out | apply below_alloc | apply pw_below_drewN | apply below_drew1) | exact HB.out))) : w.heap.size ≤ gb115));have n4_:=Aside0.mk ((by rw [hg];exact (below_size (by repeat (first | (with_reducible first | exact HB.out | apply below_alloc | apply pw_below_drewN | apply below_drew1) | exact HB.out))) : w.heap.size ≤ gb115));clear HO_4;clear HB;have HO_4:=n0_;have HB:=n1_;have BK115:=n2_;have GW115:=n3_;have GE115:=n4_;clear n0_ n1_ n2_ n3_ n4_;clear hb hbox hg;have hcz17_0 : w16.cell? ⟨gb115,0,none⟩ = some (.slice none 0 0):=(blk_cell BK115.out 0).trans rfl;have hcz17_1 : w16.cell? ⟨gb115,1,none⟩ = some (.int .i64 0):=(blk_cell BK115.out 1).trans rfl;have hfz17_0:=blk_frozen BK115.out 0;have hfz17_1:=blk_frozen BK115.out 1))
        go_roundg k1
        case measure=>have:=HK1.out;omega
        case rel=>exact ⟨(x4_1),(wrap64 (x12_1 + 1)),(by first | rfl | (simp;done) | (simp [*];done)),H',⟨by have:=HK1.out;omega⟩,⟨by (with_reducible repeat (first | apply Kd.R_alloc | apply Kd.R_drewN | apply Kd.R_drew));exact Kd.R_mono (Kd.R_far (p:=⟨gb115,1,none⟩) (Kd.R_far (p:=⟨gb115,0,none⟩) (Kd.R_mono HO_4.out (fun k_ hk=>(⟨hk,hk.2⟩ : _ ∧ k_ ≠ gb115))) (fun _ hk=>hk.2) (.slice A114_0 ((rd_T48 l0 x12_1).f0).length c114_0)) (fun _ hk=>hk.2) (.int .i64 ((rd_T48 l0 x12_1).f1))) (fun _ hk=>trivial)⟩,⟨by repeat (first | (with_reducible first | exact HB.out | apply below_alloc | apply pw_below_drewN | apply below_drew1 | refine below_set ?_ GE115.out) | exact HB.out)⟩⟩
      ·rw [if_neg c7] at H
       exact absurd H (by simp)
     ·rw [if_neg c6] at H
      exact absurd H (by simp)
    ·rw [if_neg c5] at H
     have c5b0 : decide (x12_1 < (l0.length : Int)) = false:=decide_eq_false c5
     clear c5
     simp only [Option.some.injEq,Prod.mk.injEq] at H
     obtain ⟨rfl,rfl⟩:=H
     go_wp2
     go_ret2
     exact ⟨_,by first | rfl | (simp [errW_none,errW_some] <;> rfl) | (simp [*,errW_none,errW_some] <;> rfl),by (with_reducible repeat (first | apply Kd.R_alloc | apply Kd.R_drewN | apply Kd.R_drew));exact HO_4.out,by repeat (first | (with_reducible first | exact HB.out | apply below_alloc | apply pw_below_drewN | apply below_drew1) | exact HB.out)⟩
 ·replace c3:=Bool.eq_false_iff.mpr c3
  subst c3
  have H1 : (some (([] : List (S48)),1)) = some (r1,r2):=by rw [if_neg (show ¬ (false = true) by decide)] at H;exact H
  clear H
  have H:=H1
  clear H1
  simp only [Option.some.injEq,Prod.mk.injEq] at H
  obtain ⟨rfl,rfl⟩:=H
  go_enter Tryz.func9,Tryz.ntmps9
  go_wp2_with (first | ((with_reducible refine gate_callee (f:=12) rfl ?_);refine goesL_ (some 8) rfl rfl Tryz.func12 (by kernel_rfl) rfl #[.slice A0 l0.length c0] rfl (by (try simp only [List.map_toArray,List.map_cons,List.map_nil]);first | done | rfl | (simp only [List.length_drop,List.length_take];rfl)) ?_;(with_reducible refine (xZSound.calls _ _ l0 false _ ?side1 ?side2 A2.out).mono ?_);(case side1=>repeat (first | exact HR0.out | (with_reducible refine Kd.C_alloc ?_ _) | (with_reducible refine Kd.C_drewN ?_ _) | (with_reducible refine Kd.C_drew ?_)));(case side2=>exact HC0.out);rintro e w18 ⟨rfl,hb⟩;refine ⟨_,rfl, ?_⟩;have n0_:=Aside0.mk (below_step (by repeat (first | (with_reducible first | exact HB.out | apply below_alloc | apply pw_below_drewN | apply below_drew1) | exact HB.out)) hb);clear HB;have HB:=n0_;clear n0_;(try clear hb);(try clear hb2);(try clear hk);(try clear hi)))
  go_ret2
  exact ⟨_,by first | rfl | (simp [errW_none,errW_some] <;> rfl) | (simp [*,errW_none,errW_some] <;> rfl),by first | exact Kd.R_nil _ _ _ _ _ | exact Kd.N_nil _ _ _ _ _ | exact Kd.V_nil _ _ _ _ _ | exact Kd.Q_nil _ _ _ _ _ | exact Kd.S_nil _ _ _ _ _,by repeat (first | (with_reducible first | exact HB.out | apply below_alloc | apply pw_below_drewN | apply below_drew1) | exact HB.out)⟩
def zset_Sub.f (k : Nat) (l0 : List (S48)) (l1 : List (S48)) : Option ((List (S48)) × Int):=(zset_Neg.f k l1).bind fun bt122=>(if bt122.2 = 0 then ((xAdd.f l0 bt122.1).bind fun bt126=>(some (bt126.1,bt126.2))) else (some (([] : List (S48)),bt122.2)))
theorem zset_Sub.mono : ∀ a0 a1 k,LeO (zset_Sub.f k a0 a1) (zset_Sub.f (k + 1) a0 a1):=by
 intro a0 a1 k
 unfold zset_Sub.f
 repeat' first
   | (with_reducible exact zset_Neg.mono _ _)
   | (with_reducible exact LeO.refl _)
   | (with_reducible exact LeO.none _)
   | (with_reducible refine LeO.ite ?_ ?_)
   | (with_reducible refine LeO.bind ?_ (fun _=>?_))
   | exact zset_Neg.mono _ _
   | exact LeO.none _
   | refine LeO.ite ?_ ?_
   | refine LeO.bind ?_ (fun _=>?_)
set_option maxHeartbeats 8000000 in
set_option maxRecDepth 100000 in
theorem zset_Sub.calls (k : Nat) (A0 : Option Addr) (c0 : Nat) (l0 : List (S48)) (A1 : Option Addr) (c1 : Nat) (l1 : List (S48)) (r1 : List (S48)) (r2 : Int) (w : World) (hr0 : Kd.C k48 w A0 l0.length l0) (hc0 : l0.length ≤ c0) (hr1 : Kd.C k48 w A1 l1.length l1) (hc1 : l1.length ≤ c1) (h : zset_Sub.f k l0 l1 = some (r1,r2)) :
  Calls Tryz.prog 20 #[.slice A0 l0.length c0,.slice A1 l1.length c1] w fun e w'=>∃ v0_ : Value,e = .returned (.tuple #[v0_,.int .i64 r2]) ∧ Kd.R k48 48 w' w.heap.size (fun _=>True) v0_ r1 ∧ Below w.heap.size w w':=by
 have HR0:=Aside0.mk hr0
 have HC0:=Aside0.mk hc0
 clear hr0 hc0
 have HR1:=Aside0.mk hr1
 have HC1:=Aside0.mk hc1
 clear hr1 hc1
 have HB:=Aside0.mk (Below.refl w.heap.size w)
 have H : ((zset_Neg.f k l1).bind fun bt122=>(if bt122.2 = 0 then ((xAdd.f l0 bt122.1).bind fun bt126=>(some (bt126.1,bt126.2))) else (some (([] : List (S48)),bt122.2)))) = some (r1,r2):=h
 clear h
 replace H:=Option.bind_eq_some_iff.mp H
 obtain ⟨⟨t122,t123⟩,A30,H⟩:=H
 replace H : (if t123 = 0 then ((xAdd.f l0 t122).bind fun bt126=>(some (bt126.1,bt126.2))) else (some (([] : List (S48)),t123))) = some (r1,r2):=H
 have A3:=Aside0.mk A30
 clear A30
 by_cases c4 : t123 = 0
 ·rw [if_pos c4] at H
  have c4b0 : (t123 == 0) = true:=beq_iff_eq.mpr c4
  have c4b1 : (t123 != 0) = false:=bne_eq_false_iff_eq.mpr c4
  clear c4
  replace H:=Option.bind_eq_some_iff.mp H
  obtain ⟨⟨t126,t127⟩,A50,H⟩:=H
  replace H : (some (t126,t127)) = some (r1,r2):=H
  have A5:=Aside0.mk A50
  clear A50
  simp only [Option.some.injEq,Prod.mk.injEq] at H
  obtain ⟨rfl,rfl⟩:=H
  go_enter Tryz.func20,Tryz.ntmps20
  go_wp2_with (first | ((with_reducible refine gate_callee (f:=22) rfl ?_);refine goesL_ (some 10) rfl rfl Tryz.func22 (by kernel_rfl) rfl #[.slice A1 l1.length c1] rfl (by (try simp only [List.map_toArray,List.map_cons,List.map_nil]);first | done | rfl | (simp only [List.length_drop,List.length_take];rfl)) ?_;(with_reducible refine (zset_Neg.calls k _ _ l1 t122 t123 _ ?side1 ?side2 A3.out).mono ?_);(case side1=>repeat (first | exact HR1.out | (with_reducible refine Kd.C_alloc ?_ _) | (with_reducible refine Kd.C_drewN ?_ _) | (with_reducible refine Kd.C_drew ?_)));(case side2=>exact HC1.out);rintro e w6 ⟨v124,rfl,ho0,hb⟩;refine ⟨_,rfl, ?_⟩;have n0_:=Aside0.mk (Kd.R_lower ho0 (below_size (by repeat (first | (with_reducible first | exact HB.out | apply below_alloc | apply pw_below_drewN | apply below_drew1) | exact HB.out))));have n1_:=Aside0.mk (below_step (by repeat (first | (with_reducible first | exact HB.out | apply below_alloc | apply pw_below_drewN | apply below_drew1) | exact HB.out)) hb);clear HB;have HO125:=n0_;have HB:=n1_;clear n0_ n1_;(try clear hb);(try clear hb2);(try clear hk);(try clear hi);(try clear ho0);obtain ⟨Ao7,co7,eo7⟩:=Kd.R_slice HO125.out;subst eo7) | ((with_reducible refine gate_callee (f:=18) rfl ?_);refine goesL_ (some 18) rfl rfl Tryz.func18 (by kernel_rfl) rfl #[.slice A0 l0.length c0,.slice Ao7 t122.length co7] rfl (by (try simp only [List.map_toArray,List.map_cons,List.map_nil]);first | done | rfl | (simp only [List.length_drop,List.length_take];rfl)) ?_;(with_reducible refine (xAdd.calls _ _ l0 _ _ t122 t126 t127 _ ?side1 ?side2 ?side3 ?side4 A5.out).mono ?_);(case side1=>repeat (first | exact (Kd.C_below HR0.out HB.out) | (with_reducible refine Kd.C_alloc ?_ _) | (with_reducible refine Kd.C_drewN ?_ _) | (with_reducible refine Kd.C_drew ?_)));(case side2=>exact HC0.out);(case side3=>repeat (first | exact (Kd.R_reads' HO125.out).2.2 | (with_reducible refine Kd.C_alloc ?_ _) | (with_reducible refine Kd.C_drewN ?_ _) | (with_reducible refine Kd.C_drew ?_)));(case side4=>exact (Kd.R_reads' HO125.out).2.1);rintro e w8 ⟨v128,rfl,ho0,hb⟩;refine ⟨_,rfl, ?_⟩;have n0_:=Aside0.mk (Kd.R_elder' (by (with_reducible repeat (first | apply Kd.R_alloc | apply Kd.R_drewN | apply Kd.R_drew));exact HO125.out) (Kd.R_base ho0) hb);have n1_:=Aside0.mk (Kd.R_lower (Kd.R_new' ho0 (Kd.R_lt (by (with_reducible repeat (first | apply Kd.R_alloc | apply Kd.R_drewN | apply Kd.R_drew));exact HO125.out))) (below_size (by repeat (first | (with_reducible first | exact HB.out | apply below_alloc | apply pw_below_drewN | apply below_drew1) | exact HB.out))));have n2_:=Aside0.mk (below_step (by repeat (first | (with_reducible first | exact HB.out | apply below_alloc | apply pw_below_drewN | apply below_drew1) | exact HB.out)) hb);clear HO125;clear HB;have HO125:=n0_;have HO129:=n1_;have HB:=n2_;clear n0_ n1_ n2_;(try clear hb);(try clear hb2);(try clear hk);(try clear hi);(try clear ho0)))
  go_ret2
  exact ⟨_,by first | rfl | (simp [errW_none,errW_some] <;> rfl) | (simp [*,errW_none,errW_some] <;> rfl),by (with_reducible repeat (first | apply Kd.R_alloc | apply Kd.R_drewN | apply Kd.R_drew));exact Kd.R_mono HO129.out (fun _ hk=>trivial),by repeat (first | (with_reducible first | exact HB.out | apply below_alloc | apply pw_below_drewN | apply below_drew1) | exact HB.out)⟩
 ·rw [if_neg c4] at H
  have c4b0 : (t123 == 0) = false:=beq_eq_false_iff_ne.mpr c4
  have c4b1 : (t123 != 0) = true:=bne_iff_ne.mpr c4
  simp only [Option.some.injEq,Prod.mk.injEq] at H
  obtain ⟨rfl,rfl⟩:=H
  go_enter Tryz.func20,Tryz.ntmps20
  go_wp2_with (first | ((with_reducible refine gate_callee (f:=22) rfl ?_);refine goesL_ (some 10) rfl rfl Tryz.func22 (by kernel_rfl) rfl #[.slice A1 l1.length c1] rfl (by (try simp only [List.map_toArray,List.map_cons,List.map_nil]);first | done | rfl | (simp only [List.length_drop,List.length_take];rfl)) ?_;(with_reducible refine (zset_Neg.calls k _ _ l1 t122 t123 _ ?side1 ?side2 A3.out).mono ?_);(case side1=>repeat (first | exact HR1.out | (with_reducible refine Kd.C_alloc ?_ _) | (with_reducible refine Kd.C_drewN ?_ _) | (with_reducible refine Kd.C_drew ?_)));(case side2=>exact HC1.out);rintro e w9 ⟨v124,rfl,ho0,hb⟩;refine ⟨_,rfl, ?_⟩;have n0_:=Aside0.mk (Kd.R_lower ho0 (below_size (by repeat (first | (with_reducible first | exact HB.out | apply below_alloc | apply pw_below_drewN | apply below_drew1) | exact HB.out))));have n1_:=Aside0.mk (below_step (by repeat (first | (with_reducible first | exact HB.out | apply below_alloc | apply pw_below_drewN | apply below_drew1) | exact HB.out)) hb);clear HB;have HO125:=n0_;have HB:=n1_;clear n0_ n1_;(try clear hb);(try clear hb2);(try clear hk);(try clear hi);(try clear ho0)))
  go_ret2
  exact ⟨_,by first | rfl | (simp [errW_none,errW_some] <;> rfl) | (simp [*,errW_none,errW_some] <;> rfl),by first | exact Kd.R_nil _ _ _ _ _ | exact Kd.N_nil _ _ _ _ _ | exact Kd.V_nil _ _ _ _ _ | exact Kd.Q_nil _ _ _ _ _ | exact Kd.S_nil _ _ _ _ _,by repeat (first | (with_reducible first | exact HB.out | apply below_alloc | apply pw_below_drewN | apply below_drew1) | exact HB.out)⟩
end Go.Proofs.YthpkjkcfhipjhaaGreatDoor.PZB
end
section
namespace Go.Proofs.YthpkjkcfhipjhaaGreatDoor.PZB
open Go.RowKit Go.Proofs.YthpkjkcfhipjhaaGreatDoorW.PrintWords Go.Proofs.YthpkjkcfhipjhaaGreatDoorW.PrintLast Go.Proofs.YthpkjkcfhipjhaaGreatDoor.PRW Go.Proofs.YthpkjkcfhipjhaaGreatDoor.PZA Go.Proofs.YthpkjkcfhipjhaaGreatDoor.PZF
set_option linter.unusedVariables false
set_option linter.unusedSimpArgs false
def zset_Show.l0 : Nat → List ByteArray → List (S48) → Int → Int → Option (ByteArray)
 | 0,_,_,_,_=>none
 | k + 1,x3,x12,x13,x14=>if x14 < x13 then (if 0 ≤ x14 then (if x14 < (x12.length : Int) then ((row_Show.f k ((rd_T48 x12 x14).f0)).bind fun t136=>(if t136.size + 1 ≤ 9223372036854775807 then ((xItoa.f ((rd_T48 x12 x14).f1)).bind fun t137=>(if (t136 ++ (⟨#[120]⟩ : ByteArray)).size + t137.size ≤ 9223372036854775807 then (if x3.length < 8796093022208 then (zset_Show.l0 k (x3 ++ [(t136 ++ (⟨#[120]⟩ : ByteArray)) ++ t137]) x12 x13 (wrap64 (x14 + 1))) else (none)) else (none))) else (none))) else (none)) else (none)) else ((xJoin.f x3 (⟨#[32]⟩ : ByteArray)).bind fun t141=>(some t141))
def zset_Show.f (k : Nat) (l0 : List (S48)) : Option (ByteArray):=(xZSound.f l0).bind fun t130=>(if t130 = true then (if 0 ≤ (l0.length : Int) then (if ((l0.length : Int) : Int).toNat ≤ 17592186044416 then (zset_Show.l0 k (([] : List ByteArray)) l0 (l0.length : Int) 0) else (none)) else (none)) else (some (⟨#[]⟩ : ByteArray)))
theorem zset_Show.mono_l : ∀ k,(∀ y0 y1 y2 y3,LeO (zset_Show.l0 k y0 y1 y2 y3) (zset_Show.l0 (k + 1) y0 y1 y2 y3))
 | 0=>fun _ _ _ _ r h=>by simp [zset_Show.l0] at h
 | k + 1=>by
  have ih0:=zset_Show.mono_l k
  ·intro y0 y1 y2 y3
   unfold zset_Show.l0
   repeat' first
   | (with_reducible exact ih0 _ _ _ _)
   | (with_reducible exact row_Show.mono _ _)
   | (with_reducible exact LeO.refl _)
   | (with_reducible exact LeO.none _)
   | (with_reducible refine LeO.ite ?_ ?_)
   | (with_reducible refine LeO.bind ?_ (fun _=>?_))
   | exact ih0 _ _ _ _
   | exact row_Show.mono _ _
   | exact LeO.none _
   | refine LeO.ite ?_ ?_
   | refine LeO.bind ?_ (fun _=>?_)
theorem zset_Show.mono : ∀ a0 k,LeO (zset_Show.f k a0) (zset_Show.f (k + 1) a0):=by
 intro a0 k
 have ih0:=zset_Show.mono_l k
 unfold zset_Show.f
 repeat' first
   | (with_reducible exact ih0 _ _ _ _)
   | (with_reducible exact row_Show.mono _ _)
   | (with_reducible exact LeO.refl _)
   | (with_reducible exact LeO.none _)
   | (with_reducible refine LeO.ite ?_ ?_)
   | (with_reducible refine LeO.bind ?_ (fun _=>?_))
   | exact ih0 _ _ _ _
   | exact row_Show.mono _ _
   | exact LeO.none _
   | refine LeO.ite ?_ ?_
   | refine LeO.bind ?_ (fun _=>?_)
def zset_Show.T7 : Bool × List (List Nat × List Nat):=(true,[([],[]),([],[]),([1],[1]),([2],[2]),([3],[3]),([],[]),([5],[5]),([6,3],[6]),([4,7],[4,7]),([8],[8]),([0,9,7],[0,9]),([10,10,0,1,2,3,4,5,6,7,8,9,10],[0,10])])
def zset_Show.B7 : List Nat:=[0,0,2,6,14,0,32,110,254,510,1023,2047]
theorem zset_Show.tab7 : rtab .any (opsOf Tryz.f14 7) = zset_Show.T7:=by kernel_rfl
theorem zset_Show.bits7 : waitsOk zset_Show.T7.2 zset_Show.B7 = true:=by kernel_rfl
set_option maxHeartbeats 8000000 in
set_option maxRecDepth 100000 in
theorem zset_Show.calls (k : Nat) (A0 : Option Addr) (c0 : Nat) (l0 : List (S48)) (r : ByteArray) (w : World) (hr0 : Kd.C k48 w A0 l0.length l0) (hc0 : l0.length ≤ c0) (hT : RTab w) (h : zset_Show.f k l0 = some r) :
  Calls Tryz.prog 14 #[.slice A0 l0.length c0] w fun e w'=>e = .returned (.string r) ∧ Below w.heap.size w w':=by
 have hu48:=Tryz.underlying48
 have HR0:=Aside0.mk hr0
 have HC0:=Aside0.mk hc0
 clear hr0 hc0
 have HB:=Aside0.mk (Below.refl w.heap.size w)
 have HT:=Aside0.mk hT
 clear hT
 have H : ((xZSound.f l0).bind fun t130=>(if t130 = true then (if 0 ≤ (l0.length : Int) then (if ((l0.length : Int) : Int).toNat ≤ 17592186044416 then (zset_Show.l0 k (([] : List ByteArray)) l0 (l0.length : Int) 0) else (none)) else (none)) else (some (⟨#[]⟩ : ByteArray)))) = some r:=h
 clear h
 replace H:=Option.bind_eq_some_iff.mp H
 obtain ⟨t130,A20,H⟩:=H
 replace H : (if t130 = true then (if 0 ≤ (l0.length : Int) then (if ((l0.length : Int) : Int).toNat ≤ 17592186044416 then (zset_Show.l0 k (([] : List ByteArray)) l0 (l0.length : Int) 0) else (none)) else (none)) else (some (⟨#[]⟩ : ByteArray))) = some r:=H
 have A2:=Aside0.mk A20
 clear A20
 by_cases c3 : t130 = true
 ·subst c3
  have H1 : (if 0 ≤ (l0.length : Int) then (if ((l0.length : Int) : Int).toNat ≤ 17592186044416 then (zset_Show.l0 k (([] : List ByteArray)) l0 (l0.length : Int) 0) else (none)) else (none)) = some r:=by rw [if_pos rfl] at H;exact H
  clear H
  have H:=H1
  clear H1
  by_cases c4 : 0 ≤ (l0.length : Int)
  ·rw [if_pos c4] at H
   have c4b0:=eq_true c4
   have c4b1 : decide (0 ≤ (l0.length : Int)) = true:=decide_eq_true c4
   clear c4
   by_cases c5 : ((l0.length : Int) : Int).toNat ≤ 17592186044416
   ·rw [if_pos c5] at H
    have c5b0:=eq_true c5
    have c5b1 : decide (((l0.length : Int) : Int).toNat ≤ 17592186044416) = true:=decide_eq_true c5
    clear c5
    obtain ⟨y131,hy131⟩ : ∃ y_ : List ByteArray,y_ = (([] : List ByteArray)):=⟨_,rfl⟩
    replace H : (zset_Show.l0 k y131 l0 (l0.length : Int) 0) = some r:=by first | (rw [hy131];with_reducible exact H) | (have H2_:=(Option.bind_some _ _).symm.trans H;rw [hy131];with_reducible exact H2_) | (have H2_:=(Option.bind_some _ _).symm.trans H;with_reducible exact H2_) | with_reducible exact H | (rw [hy131];exact H) | exact H
    have Ny131:=Aside0.mk hy131
    clear hy131
    have H':=Aside0.mk H
    clear H
    go_enter Tryz.func14,Tryz.ntmps14
    go_wp2_with (first | ((with_reducible refine gate_callee (f:=12) rfl ?_);refine goesL_ (some 7) rfl rfl Tryz.func12 (by kernel_rfl) rfl #[.slice A0 l0.length c0] rfl (by (try simp only [List.map_toArray,List.map_cons,List.map_nil]);first | done | rfl | (simp only [List.length_drop,List.length_take];rfl)) ?_;(with_reducible refine (xZSound.calls _ _ l0 true _ ?side1 ?side2 A2.out).mono ?_);(case side1=>repeat (first | exact HR0.out | (with_reducible refine Kd.C_alloc ?_ _) | (with_reducible refine Kd.C_drewN ?_ _) | (with_reducible refine Kd.C_drew ?_)));(case side2=>exact HC0.out);rintro e w6 ⟨rfl,hb⟩;refine ⟨_,rfl, ?_⟩;have n0_:=Aside0.mk (below_step (by repeat (first | (with_reducible first | exact HB.out | apply below_alloc | apply pw_below_drewN | apply below_drew1) | exact HB.out)) hb);clear HB;have HB:=n0_;clear n0_;(try clear hb);(try clear hb2);(try clear hk);(try clear hi)) | ((with_reducible refine gate_dst (N:=11) rfl ?_);refine Kd.R_make0 Kd.string _ 9 rfl (N:=11) rfl 69 _ _ rfl (l0.length : Int) rfl rfl Tryz.underlying69 (.string ⟨#[]⟩) 16 info9 rfl (by decide) (by omega) (⟨#[]⟩ : ByteArray) (ok:=fun _=>True) (okp:=fun _=>True) rfl (fun _ hk=>hk) trivial (of_decide_eq_true (by first | (with_reducible assumption) | assumption)) (Nat.le_trans (Nat.mul_le_mul_right _ (of_decide_eq_true (by first | (with_reducible assumption) | assumption) : (l0.length : Int).toNat ≤ 17592186044416)) (by omega)) (Below.refl _ _) (Nat.le_refl _) ?_;intro v132 w7 ho8 hb hg_ hnew_;clear hg_ hnew_;(first | rw [← Ny131.out] at ho8 | (simp only [Int.reduceToNat] at ho8;rw [← Ny131.out] at ho8));have n0_:=Aside0.mk (Kd.R_lower ho8 (below_size (by repeat (first | (with_reducible first | exact HB.out | apply below_alloc | apply pw_below_drewN | apply below_drew1) | exact HB.out))));have n1_:=Aside0.mk (below_step (by repeat (first | (with_reducible first | exact HB.out | apply below_alloc | apply pw_below_drewN | apply below_drew1) | exact HB.out)) hb);clear HB;have HO133:=n0_;have HB:=n1_;clear n0_ n1_;clear hb ho8))
    go_loopg [3,14] k (fun kq v3 v14 w'=>∃ (x3_1 : List ByteArray) (x14_1 : Int),v14 = .int .i64 x14_1 ∧ Aside0 (zset_Show.l0 kq x3_1 l0 (l0.length : Int) x14_1 = some r) ∧ Aside0 (kq ≤ k) ∧ Aside0 (Kd.R Kd.string 9 w' w.heap.size (fun _=>True) v3 x3_1) ∧ Aside0 (Below w.heap.size w w'))
    case atStart=>exact ⟨(y131),(0),(by first | rfl | (simp;done) | (simp [*];done)),H',⟨Nat.le_refl _⟩,⟨by (with_reducible repeat (first | apply Kd.R_alloc | apply Kd.R_drewN | apply Kd.R_drew));exact HO133.out⟩,⟨by repeat (first | (with_reducible first | exact HB.out | apply below_alloc | apply pw_below_drewN | apply below_drew1) | exact HB.out)⟩⟩
    case round =>
     clear H'
     try clear c1
     try clear p2
     try clear c3
     try clear c4
     try clear c4b0
     try clear c4b1
     try clear c5
     try clear c5b0
     try clear c5b1
     obtain ⟨x3_1,x14_1,rfl,HA,HK1,HO_3,HB⟩:=hrel
     cases gk with
     | zero=>exact absurd HA.out (by simp [zset_Show.l0])
     | succ k1 =>
      have H:=HA.out
      clear HA
      simp only [zset_Show.l0] at H
      by_cases c9 : x14_1 < (l0.length : Int)
      ·rw [if_pos c9] at H
       have c9b0 : decide (x14_1 < (l0.length : Int)) = true:=decide_eq_true c9
       clear c9
       by_cases c10 : 0 ≤ x14_1
       ·rw [if_pos c10] at H
        have c10b0 : decide (0 ≤ x14_1) = true:=decide_eq_true c10
        clear c10
        by_cases c11 : x14_1 < (l0.length : Int)
        ·rw [if_pos c11] at H
         have c11b0 : decide (x14_1 < (l0.length : Int)) = true:=decide_eq_true c11
         clear c11
         replace H:=Option.bind_eq_some_iff.mp H
         obtain ⟨t136,A120,H⟩:=H
         replace H : (if t136.size + 1 ≤ 9223372036854775807 then ((xItoa.f ((rd_T48 l0 x14_1).f1)).bind fun t137=>(if (t136 ++ (⟨#[120]⟩ : ByteArray)).size + t137.size ≤ 9223372036854775807 then (if x3_1.length < 8796093022208 then (zset_Show.l0 k1 (x3_1 ++ [(t136 ++ (⟨#[120]⟩ : ByteArray)) ++ t137]) l0 (l0.length : Int) (wrap64 (x14_1 + 1))) else (none)) else (none))) else (none)) = some r:=H
         have A12:=Aside0.mk A120
         clear A120
         by_cases c13 : t136.size + 1 ≤ 9223372036854775807
         ·rw [if_pos c13] at H
          have c13b0:=eq_true c13
          have c13b1 : decide (t136.size + 1 ≤ 9223372036854775807) = true:=decide_eq_true c13
          try have c13b2 : (9223372036854775807 < t136.size + 1) = False:=eq_false (Nat.not_lt.2 c13)
          replace H:=Option.bind_eq_some_iff.mp H
          obtain ⟨t137,A140,H⟩:=H
          replace H : (if (t136 ++ (⟨#[120]⟩ : ByteArray)).size + t137.size ≤ 9223372036854775807 then (if x3_1.length < 8796093022208 then (zset_Show.l0 k1 (x3_1 ++ [(t136 ++ (⟨#[120]⟩ : ByteArray)) ++ t137]) l0 (l0.length : Int) (wrap64 (x14_1 + 1))) else (none)) else (none)) = some r:=H
          have A14:=Aside0.mk A140
          clear A140
          by_cases c15 : (t136 ++ (⟨#[120]⟩ : ByteArray)).size + t137.size ≤ 9223372036854775807
          ·rw [if_pos c15] at H
           have c15b0:=eq_true c15
           have c15b1 : decide ((t136 ++ (⟨#[120]⟩ : ByteArray)).size + t137.size ≤ 9223372036854775807) = true:=decide_eq_true c15
           try have c15b2 : (9223372036854775807 < (t136 ++ (⟨#[120]⟩ : ByteArray)).size + t137.size) = False:=eq_false (Nat.not_lt.2 c15)
           have c15y:=c15
           (try simp only [ByteArray.size_append,show (⟨#[120]⟩ : ByteArray).size = 1 from rfl] at c15y)
           have c15z:=eq_false (Nat.not_lt.2 c15y)
           by_cases c16 : x3_1.length < 8796093022208
           ·rw [if_pos c16] at H
            have LMc16:=Aside0.mk c16
            clear c16
            obtain ⟨y138,hy138⟩ : ∃ y_ : List ByteArray,y_ = (x3_1 ++ [(t136 ++ (⟨#[120]⟩ : ByteArray)) ++ t137]):=⟨_,rfl⟩
            replace H : (zset_Show.l0 k1 y138 l0 (l0.length : Int) (wrap64 (x14_1 + 1))) = some r:=by first | (rw [hy138];with_reducible exact H) | (have H2_:=(Option.bind_some _ _).symm.trans H;rw [hy138];with_reducible exact H2_) | (have H2_:=(Option.bind_some _ _).symm.trans H;with_reducible exact H2_) | with_reducible exact H | (rw [hy138];exact H) | exact H
            have Ny138:=Aside0.mk hy138
            clear hy138
            have H':=Aside0.mk H
            clear H
            have p134 : 0 ≤ (x14_1 : Int):=of_decide_eq_true (by first | (with_reducible assumption) | assumption)
            have q134 : x14_1 < (l0.length : Int):=of_decide_eq_true (by first | (with_reducible assumption) | assumption)
            obtain ⟨ad134,A134_0,c134_0,e134,hx134_0,hx134_1,hl134_0,hi134_0⟩:=at_T48 HR0.out x14_1 p134 q134
            cases e134
            replace hx134_0:=(HB.out.cell (World.block_lt_of_cell? w _ hx134_0)).trans hx134_0
            replace hx134_1:=(HB.out.cell (World.block_lt_of_cell? w _ hx134_1)).trans hx134_1
            have HR134_0:=Aside0.mk hi134_0
            have HC134_0:=Aside0.mk hl134_0
            clear hi134_0 hl134_0
            replace p134:=eq_true p134
            replace q134:=eq_true q134
            try go_wp2_with (first | ((with_reducible refine gate_dst (N:=5) rfl ?_);refine box_event ?hg (N:=5) ?hd (cs:=#[.slice none 0 0,.int .i64 0]) (t:=48) ?hr ?_;(case hd=>rfl);(case hg=>rfl);(case hr=>first | (go_simp;done) | (go_simp;rfl));intro gb135 hg w17 hbox hb;have n0_:=Aside0.mk (Kd.R_below (by (with_reducible repeat (first | apply Kd.R_alloc | apply Kd.R_drewN | apply Kd.R_drew));exact HO_3.out) hb);have n1_:=Aside0.mk (below_step (by repeat (first | (with_reducible first | exact HB.out | apply below_alloc | apply pw_below_drewN | apply below_drew1) | exact HB.out)) hb);have n2_:=Aside0.mk (hbox);have n3_:=Aside0.mk ((by rw [hg];exact (below_size (by repeat (first | (with_reducible first | exact HB.out | apply below_alloc | apply pw_below_drewN | apply below_drew1) | exact HB.out))) : w.heap.size ≤ gb135));have n4_:=Aside0.mk ((by rw [hg];exact (below_size (by repeat (first | (with_reducible first | exact HB.out | apply below_alloc | apply pw_below_drewN | apply below_drew1) | exact HB.out))) : w.heap.size ≤ gb135));clear HO_3;clear HB;have HO_3:=n0_;have HB:=n1_;have BK135:=n2_;have GW135:=n3_;have GE135:=n4_;clear n0_ n1_ n2_ n3_ n4_;clear hb hbox hg;have hcz18_0 : w17.cell? ⟨gb135,0,none⟩ = some (.slice none 0 0):=(blk_cell BK135.out 0).trans rfl;have hcz18_1 : w17.cell? ⟨gb135,1,none⟩ = some (.int .i64 0):=(blk_cell BK135.out 1).trans rfl;have hfz18_0:=blk_frozen BK135.out 0;have hfz18_1:=blk_frozen BK135.out 1))
            have n0_ : Aside0 (Kd.R Kd.string 9 ((w17.setCell ⟨gb135,0,none⟩ (.slice A134_0 ((rd_T48 l0 x14_1).f0).length c134_0)).setCell ⟨gb135,1,none⟩ (.int .i64 ((rd_T48 l0 x14_1).f1))) w.heap.size (fun _=>True) u3 x3_1):=⟨by (with_reducible repeat (first | apply Kd.R_alloc | apply Kd.R_drewN | apply Kd.R_drew));exact Kd.R_mono (Kd.R_far (p:=⟨gb135,1,none⟩) (Kd.R_far (p:=⟨gb135,0,none⟩) (Kd.R_types HO_3.out BK135.out (by decide)) (fun _ hk=>hk.2) (.slice A134_0 ((rd_T48 l0 x14_1).f0).length c134_0)) (fun _ hk=>hk.2) (.int .i64 ((rd_T48 l0 x14_1).f1))) (fun _ hk=>trivial)⟩
            have n1_ : Aside0 (((w17.setCell ⟨gb135,0,none⟩ (.slice A134_0 ((rd_T48 l0 x14_1).f0).length c134_0)).setCell ⟨gb135,1,none⟩ (.int .i64 ((rd_T48 l0 x14_1).f1))).heap[gb135]? = some (.cells #[.slice A134_0 ((rd_T48 l0 x14_1).f0).length c134_0,.int .i64 ((rd_T48 l0 x14_1).f1)] 48 (0,0))):=⟨by (with_reducible repeat (first | refine blk_drewN ?_ _ | refine blk_drew ?_ | refine blk_alloc ?_ _));refine blk_put (cs:=#[.slice A134_0 ((rd_T48 l0 x14_1).f0).length c134_0,.int .i64 0]) ?_ 1 _ rfl;(with_reducible repeat (first | refine blk_drewN ?_ _ | refine blk_drew ?_ | refine blk_alloc ?_ _));refine blk_put (cs:=#[.slice none 0 0,.int .i64 0]) ?_ 0 _ rfl;(with_reducible repeat (first | refine blk_drewN ?_ _ | refine blk_drew ?_ | refine blk_alloc ?_ _));exact BK135.out⟩
            have n2_ : Aside0 (Below w.heap.size w ((w17.setCell ⟨gb135,0,none⟩ (.slice A134_0 ((rd_T48 l0 x14_1).f0).length c134_0)).setCell ⟨gb135,1,none⟩ (.int .i64 ((rd_T48 l0 x14_1).f1)))):=⟨by repeat (first | (with_reducible first | exact HB.out | apply below_alloc | apply pw_below_drewN | apply below_drew1 | refine below_set ?_ GE135.out) | exact HB.out)⟩
            (try clear HO_3)
            (try clear BK135)
            (try clear HB)
            generalize ((w17.setCell ⟨gb135,0,none⟩ (.slice A134_0 ((rd_T48 l0 x14_1).f0).length c134_0)).setCell ⟨gb135,1,none⟩ (.int .i64 ((rd_T48 l0 x14_1).f1))) = w19 at n0_ n1_ n2_ ⊢
            have HO_3:=n0_
            have BK135:=n1_
            have HB:=n2_
            clear n0_ n1_ n2_
            have n0_:=Aside0.mk (Kd.R_drew HO_3.out)
            have n1_:=Aside0.mk (blk_drew BK135.out)
            have n2_:=Aside0.mk (below_drew1 HB.out)
            clear HO_3
            clear BK135
            clear HB
            have HO_3:=n0_
            have BK135:=n1_
            have HB:=n2_
            clear n0_ n1_ n2_
            refine start_ (n:=12) (S:=fun w'=>w'.cell? ⟨gb135,0,none⟩ = some (.slice A134_0 ((rd_T48 l0 x14_1).f0).length c134_0) ∧ w'.cell? ⟨gb135,1,none⟩ = some (.int .i64 ((rd_T48 l0 x14_1).f1))) (ds:=[]) #[false,false,false,false,false,false,false,false,false,false,false,false] (by kernel_rfl) rfl rfl ⟨(blk_cell BK135.out 0).trans rfl,(blk_cell BK135.out 1).trans rfl⟩ (fun hHeld=>?_);refine with_tabW zset_Show.tab7 zset_Show.bits7 (fun HT_ HW_=>?_)
            generalize w19.drew = w20 at HO_3 BK135 HB hHeld ⊢
            refine pure_ (i:=0) (N:=some 18) (v:=?_) (a':=?_) #[true,false,false,false,false,false,false,false,false,false,false,false] rfl rfl (any_of HT_.out (by kernel_rfl)) (fun _ _ _ h=>h) (Or.inl ⟨by rfl, ?_⟩) ?_ ?_
            rotate_left
            ·intro w'
             go_simp
             with_reducible rfl
            rotate_left
            ·simp only [Act.put,List.setIfInBounds_toArray,List.set_cons_zero,List.set_cons_succ,i64_w,i32_w]
             rfl
            refine pure_ (i:=1) (N:=some 19) (v:=?_) (a':=?_) #[true,true,false,false,false,false,false,false,false,false,false,false] rfl rfl (any_of HT_.out (by kernel_rfl)) (fun _ _ _ h=>h) (Or.inl ⟨by rfl, ?_⟩) ?_ ?_
            rotate_left
            ·intro w'
             go_simp
             with_reducible rfl
            rotate_left
            ·simp only [Act.put,List.setIfInBounds_toArray,List.set_cons_zero,List.set_cons_succ,i64_w,i32_w]
             rfl
            refine pure_ (i:=5) (N:=some 23) (v:=?_) (a':=?_) #[true,true,false,false,false,true,false,false,false,false,false,false] rfl rfl (any_of HT_.out (by kernel_rfl)) (fun _ _ _ h=>h) (Or.inl ⟨by rfl, ?_⟩) ?_ ?_
            rotate_left
            ·intro w'
             go_simp
             with_reducible rfl
            rotate_left
            ·simp only [Act.put,List.setIfInBounds_toArray,List.set_cons_zero,List.set_cons_succ,i64_w,i32_w]
             rfl
            refine take_ (i:=2) (N:=some 20) (v:=?_) (a':=?_) #[true,true,true,false,false,true,false,false,false,false,false,false] rfl rfl (take_ofW HT_.out HW_.out (by kernel_rfl)) (fun _ _ _ h=>h) (Or.inl ⟨by rfl, ?_⟩) hHeld ?_ ?_
            rotate_left
            ·rintro w' ⟨s0,s1⟩
             go_simp
             with_reducible rfl
            rotate_left
            ·simp only [Act.put,List.setIfInBounds_toArray,List.set_cons_zero,List.set_cons_succ,i64_w,i32_w]
             rfl
            refine take_ (i:=6) (N:=some 24) (v:=?_) (a':=?_) #[true,true,true,false,false,true,true,false,false,false,false,false] rfl rfl (take_ofW HT_.out HW_.out (by kernel_rfl)) (fun _ _ _ h=>h) (Or.inl ⟨by rfl, ?_⟩) hHeld ?_ ?_
            rotate_left
            ·rintro w' ⟨s0,s1⟩
             go_simp
             with_reducible rfl
            rotate_left
            ·simp only [Act.put,List.setIfInBounds_toArray,List.set_cons_zero,List.set_cons_succ,i64_w,i32_w]
             rfl
            refine one_ (i:=3) (N:=some 21) #[true,true,true,true,false,true,true,false,false,false,false,false] rfl rfl (one_of HT_.out (by kernel_rfl)) (by decide) (fun K hK=>?_)
            refine goes_ Tryz.func34 (by kernel_rfl) rfl #[.slice A134_0 ((rd_T48 l0 x14_1).f0).length c134_0] (by rfl) rfl rfl (by (try simp only [List.map_toArray,List.map_cons,List.map_nil]);first | done | rfl | (simp only [List.length_drop,List.length_take];rfl)) ?_
            with_reducible refine (row_Show.calls k1 _ _ ((rd_T48 l0 x14_1).f0) t136 _ ?side1 ?side2 ?side3 A12.out).mono ?_
            (case side1=>repeat (first | exact (Kd.C_below HR134_0.out HB.out) | (with_reducible refine Kd.C_alloc ?_ _) | (with_reducible refine Kd.C_drewN ?_ _) | (with_reducible refine Kd.C_drew ?_)))
            (case side2=>exact HC134_0.out)
            (case side3=>first | exact HT.out | exact tab_at HT.out (by repeat (first | (with_reducible first | exact HB.out | apply below_alloc | apply pw_below_drewN | apply below_drew1 | refine below_set ?_ GE135.out) | exact HB.out)) | (repeat (first | exact HT.out | refine tab_drewN ?_ | refine tab_drew ?_)))
            rintro e w21 ⟨rfl,hb⟩
            refine ⟨_,rfl, ?_⟩
            have n0_:=Aside0.mk (Kd.R_below (by (with_reducible repeat (first | apply Kd.R_alloc | apply Kd.R_drewN | apply Kd.R_drew));exact HO_3.out) hb)
            have n1_:=Aside0.mk (blk_below (g:=gb135) (o:=.cells #[.slice A134_0 ((rd_T48 l0 x14_1).f0).length c134_0,.int .i64 ((rd_T48 l0 x14_1).f1)] 48 (0,0)) (by (with_reducible repeat (first | refine blk_drewN ?_ _ | refine blk_drew ?_ | refine blk_alloc ?_ _));exact BK135.out) hb)
            have n2_:=Aside0.mk (below_step (by repeat (first | (with_reducible first | exact HB.out | apply below_alloc | apply pw_below_drewN | apply below_drew1 | refine below_set ?_ GE135.out) | exact HB.out)) hb)
            clear HO_3
            clear BK135
            clear HB
            have HO_3:=n0_
            have BK135:=n1_
            have HB:=n2_
            clear n0_ n1_ n2_
            (try clear hb)
            (try clear hb2)
            (try clear hk)
            (try clear hi)
            refine hK.out _ _ ⟨(blk_cell BK135.out 0).trans rfl,(blk_cell BK135.out 1).trans rfl⟩ (fun hHeld=>?_)
            clear hK K
            refine norm_ (a':=?_) ?_ ?_
            rotate_left
            ·show Act.put _ (some 21) _ = _
             simp only [Act.put,List.setIfInBounds_toArray,List.set_cons_zero,List.set_cons_succ,i64_w,i32_w]
             rfl
            refine pure_ (i:=4) (N:=some 22) (v:=?_) (a':=?_) #[true,true,true,true,true,true,true,false,false,false,false,false] rfl rfl (any_of HT_.out (by kernel_rfl)) (fun _ _ _ h=>h) (Or.inl ⟨by rfl, ?_⟩) ?_ ?_
            rotate_left
            ·intro w'
             go_simp
             with_reducible rfl
            rotate_left
            ·simp only [Act.put,List.setIfInBounds_toArray,List.set_cons_zero,List.set_cons_succ,i64_w,i32_w]
             rfl
            refine one_ (i:=7) (N:=some 25) #[true,true,true,true,true,true,true,true,false,false,false,false] rfl rfl (one_of HT_.out (by kernel_rfl)) (by decide) (fun K hK=>?_)
            refine goes_ Tryz.func50 (by kernel_rfl) rfl #[.int .i64 ((rd_T48 l0 x14_1).f1)] (by rfl) rfl rfl (by (try simp only [List.map_toArray,List.map_cons,List.map_nil]);first | done | rfl | (simp only [List.length_drop,List.length_take];rfl)) ?_
            with_reducible refine (xItoa.calls ((rd_T48 l0 x14_1).f1) t137 _ ?side1 A14.out).mono ?_
            (case side1=>first | exact HT.out | exact tab_at HT.out (by repeat (first | (with_reducible first | exact HB.out | apply below_alloc | apply pw_below_drewN | apply below_drew1 | refine below_set ?_ GE135.out) | exact HB.out)) | (repeat (first | exact HT.out | refine tab_drewN ?_ | refine tab_drew ?_)))
            rintro e w22 ⟨rfl,hb⟩
            refine ⟨_,rfl, ?_⟩
            have n0_:=Aside0.mk (Kd.R_below (by (with_reducible repeat (first | apply Kd.R_alloc | apply Kd.R_drewN | apply Kd.R_drew));exact HO_3.out) hb)
            have n1_:=Aside0.mk (blk_below (g:=gb135) (o:=.cells #[.slice A134_0 ((rd_T48 l0 x14_1).f0).length c134_0,.int .i64 ((rd_T48 l0 x14_1).f1)] 48 (0,0)) (by (with_reducible repeat (first | refine blk_drewN ?_ _ | refine blk_drew ?_ | refine blk_alloc ?_ _));exact BK135.out) hb)
            have n2_:=Aside0.mk (below_step (by repeat (first | (with_reducible first | exact HB.out | apply below_alloc | apply pw_below_drewN | apply below_drew1 | refine below_set ?_ GE135.out) | exact HB.out)) hb)
            clear HO_3
            clear BK135
            clear HB
            have HO_3:=n0_
            have BK135:=n1_
            have HB:=n2_
            clear n0_ n1_ n2_
            (try clear hb)
            (try clear hb2)
            (try clear hk)
            (try clear hi)
            refine hK.out _ _ ⟨(blk_cell BK135.out 0).trans rfl,(blk_cell BK135.out 1).trans rfl⟩ (fun hHeld=>?_)
            clear hK K
            refine norm_ (a':=?_) ?_ ?_
            rotate_left
            ·show Act.put _ (some 25) _ = _
             simp only [Act.put,List.setIfInBounds_toArray,List.set_cons_zero,List.set_cons_succ,i64_w,i32_w]
             rfl
            refine pure_ (i:=8) (N:=some 26) (v:=?_) (a':=?_) #[true,true,true,true,true,true,true,true,true,false,false,false] rfl rfl (any_of HT_.out (by kernel_rfl)) (fun _ _ _ h=>h) (Or.inl ⟨by rfl, ?_⟩) ?_ ?_
            rotate_left
            ·intro w'
             go_simp
             with_reducible rfl
            rotate_left
            ·simp only [Act.put,List.setIfInBounds_toArray,List.set_cons_zero,List.set_cons_succ,i64_w,i32_w]
             rfl
            refine one_ (i:=9) (N:=some 27) #[true,true,true,true,true,true,true,true,true,true,false,false] rfl rfl (one_of HT_.out (by kernel_rfl)) (by decide) (fun K hK=>?_)
            refine value_ (w1:=?_) (v:=?_) (by rfl) rfl ?_ ?_
            rotate_left 2
            ·go_simp
             constructor
             ·rfl
             ·rfl
            refine hK.out _ _ ⟨(blk_cell (blk_alloc BK135.out _) 0).trans rfl,(blk_cell (blk_alloc BK135.out _) 1).trans rfl⟩ (fun hHeld=>?_)
            clear hK K
            refine norm_ (a':=?_) ?_ ?_
            rotate_left
            ·show Act.put _ (some 27) _ = _
             simp only [Act.put,List.setIfInBounds_toArray,List.set_cons_zero,List.set_cons_succ,i64_w,i32_w]
             rfl
            refine one_ (i:=10) (N:=some 28) #[true,true,true,true,true,true,true,true,true,true,true,false] rfl rfl (one_of HT_.out (by kernel_rfl)) (by decide) (fun K hK=>?_)
            refine Kd.R_append_step Kd.string (w0:=w) w.heap.size (by rfl) (.tmp 18) (.tmp 27) 69 9 (.string ⟨#[]⟩) 16 rfl Tryz.underlying69 info9 rfl (by decide) (by omega) u3 x3_1 ((t136 ++ (⟨#[120]⟩ : ByteArray)) ++ t137) [.string ((t136 ++ (⟨#[120]⟩ : ByteArray)) ++ t137)] (fun _=>True) (fun _=>False) rfl rfl ?aP (fun _ hk=>hk.elim) ?aF ?aO ?aB ?aS ?aL ?_
            (case aP=>exact rfl)
            (case aB=>exact (by repeat (first | (with_reducible first | exact HB.out | apply below_alloc | apply pw_below_drewN | apply below_drew1 | refine below_set ?_ GE135.out) | exact HB.out)))
            (case aF=>exact (fun _ _=>trivial))
            (case aO=>exact (by (with_reducible repeat (first | apply Kd.R_alloc | apply Kd.R_drewN | apply Kd.R_drew));exact HO_3.out))
            (case aS=>exact (below_size (by repeat (first | (with_reducible first | exact HB.out | apply below_alloc | apply pw_below_drewN | apply below_drew1 | refine below_set ?_ GE135.out) | exact HB.out))))
            (case aL=>have:=LMc16.out;omega)
            intro v139 w23 ho hb hg hat
            rw [← Ny138.out] at ho
            have n0_:=Aside0.mk (blk_grown (g:=gb135) (o:=.cells #[.slice A134_0 ((rd_T48 l0 x14_1).f0).length c134_0,.int .i64 ((rd_T48 l0 x14_1).f1)] 48 (0,0)) (by (with_reducible repeat (first | refine blk_drewN ?_ _ | refine blk_drew ?_ | refine blk_alloc ?_ _));exact BK135.out) hg (Kd.R_ne HO_3.out BK135.out (by decide)))
            have n1_:=Aside0.mk (hb)
            have n2_:=Aside0.mk (ho)
            clear BK135
            clear HB
            clear HO_3
            have BK135:=n0_
            have HB:=n1_
            have HO140:=n2_
            clear n0_ n1_ n2_
            clear ho hb hg hat
            refine hK.out _ _ ⟨(blk_cell BK135.out 0).trans rfl,(blk_cell BK135.out 1).trans rfl⟩ (fun hHeld=>?_)
            clear hK K
            refine norm_ (a':=?_) ?_ ?_
            rotate_left
            ·show Act.put _ (some 28) _ = _
             simp only [Act.put,List.setIfInBounds_toArray,List.set_cons_zero,List.set_cons_succ,i64_w,i32_w]
             rfl
            refine pure_ (i:=11) (N:=some 3) (v:=?_) (a':=?_) #[true,true,true,true,true,true,true,true,true,true,true,true] rfl rfl (any_of HT_.out (by kernel_rfl)) (fun _ _ _ h=>h) (Or.inl ⟨by rfl, ?_⟩) ?_ ?_
            rotate_left
            ·intro w'
             go_simp
             with_reducible rfl
            rotate_left
            ·simp only [Act.put,List.setIfInBounds_toArray,List.set_cons_zero,List.set_cons_succ,i64_w,i32_w]
             rfl
            refine done_ (done_of HT_.out (by kernel_rfl)) ?_
            try go_wp2
            go_roundg k1
            case measure=>have:=HK1.out;omega
            case rel=>exact ⟨(y138),(wrap64 (x14_1 + 1)),(by first | rfl | (simp;done) | (simp [*];done)),H',⟨by have:=HK1.out;omega⟩,⟨by (with_reducible repeat (first | apply Kd.R_alloc | apply Kd.R_drewN | apply Kd.R_drew));exact HO140.out⟩,⟨by repeat (first | (with_reducible first | exact HB.out | apply below_alloc | apply pw_below_drewN | apply below_drew1 | refine below_set ?_ GE135.out) | exact HB.out)⟩⟩
           ·rw [if_neg c16] at H
            exact absurd H (by simp)
          ·rw [if_neg c15] at H
           exact absurd H (by simp)
         ·rw [if_neg c13] at H
          exact absurd H (by simp)
        ·rw [if_neg c11] at H
         exact absurd H (by simp)
       ·rw [if_neg c10] at H
        exact absurd H (by simp)
      ·rw [if_neg c9] at H
       have c9b0 : decide (x14_1 < (l0.length : Int)) = false:=decide_eq_false c9
       clear c9
       replace H:=Option.bind_eq_some_iff.mp H
       obtain ⟨t141,A240,H⟩:=H
       replace H : (some t141) = some r:=H
       have A24:=Aside0.mk A240
       clear A240
       obtain rfl:=Option.some.inj H
       obtain ⟨Ao25,co25,eo25⟩:=Kd.R_slice HO_3.out
       subst eo25
       go_wp2_with (first | ((with_reducible refine gate_callee (f:=51) rfl ?_);refine goesL_ (some 31) rfl rfl Tryz.func51 (by kernel_rfl) rfl #[.slice Ao25 x3_1.length co25,.string (⟨#[32]⟩ : ByteArray)] rfl (by (try simp only [List.map_toArray,List.map_cons,List.map_nil]);first | done | rfl | (simp only [List.length_drop,List.length_take];rfl)) ?_;(with_reducible refine (xJoin.calls _ _ x3_1 (⟨#[32]⟩ : ByteArray) t141 _ ?side1 ?side2 A24.out).mono ?_);(case side1=>repeat (first | exact (Kd.R_reads' HO_3.out).2.2 | (with_reducible refine Kd.C_alloc ?_ _) | (with_reducible refine Kd.C_drewN ?_ _) | (with_reducible refine Kd.C_drew ?_)));(case side2=>exact (Kd.R_reads' HO_3.out).2.1);rintro e w26 ⟨rfl,hb⟩;refine ⟨_,rfl, ?_⟩;have n0_:=Aside0.mk (Kd.R_below (by (with_reducible repeat (first | apply Kd.R_alloc | apply Kd.R_drewN | apply Kd.R_drew));exact HO_3.out) hb);have n1_:=Aside0.mk (below_step (by repeat (first | (with_reducible first | exact HB.out | apply below_alloc | apply pw_below_drewN | apply below_drew1) | exact HB.out)) hb);clear HO_3;clear HB;have HO_3:=n0_;have HB:=n1_;clear n0_ n1_;(try clear hb);(try clear hb2);(try clear hk);(try clear hi)))
       go_ret
       exact ⟨by first | rfl | (simp [errW_none,errW_some] <;> rfl) | (simp [*,errW_none,errW_some] <;> rfl),by repeat (first | (with_reducible first | exact HB.out | apply below_alloc | apply pw_below_drewN | apply below_drew1) | exact HB.out)⟩
   ·rw [if_neg c5] at H
    exact absurd H (by simp)
  ·rw [if_neg c4] at H
   exact absurd H (by simp)
 ·replace c3:=Bool.eq_false_iff.mpr c3
  subst c3
  have H1 : (some (⟨#[]⟩ : ByteArray)) = some r:=by rw [if_neg (show ¬ (false = true) by decide)] at H;exact H
  clear H
  have H:=H1
  clear H1
  obtain rfl:=Option.some.inj H
  go_enter Tryz.func14,Tryz.ntmps14
  go_wp2_with (first | ((with_reducible refine gate_callee (f:=12) rfl ?_);refine goesL_ (some 7) rfl rfl Tryz.func12 (by kernel_rfl) rfl #[.slice A0 l0.length c0] rfl (by (try simp only [List.map_toArray,List.map_cons,List.map_nil]);first | done | rfl | (simp only [List.length_drop,List.length_take];rfl)) ?_;(with_reducible refine (xZSound.calls _ _ l0 false _ ?side1 ?side2 A2.out).mono ?_);(case side1=>repeat (first | exact HR0.out | (with_reducible refine Kd.C_alloc ?_ _) | (with_reducible refine Kd.C_drewN ?_ _) | (with_reducible refine Kd.C_drew ?_)));(case side2=>exact HC0.out);rintro e w27 ⟨rfl,hb⟩;refine ⟨_,rfl, ?_⟩;have n0_:=Aside0.mk (below_step (by repeat (first | (with_reducible first | exact HB.out | apply below_alloc | apply pw_below_drewN | apply below_drew1) | exact HB.out)) hb);clear HB;have HB:=n0_;clear n0_;(try clear hb);(try clear hb2);(try clear hk);(try clear hi)))
  go_ret
  exact ⟨by first | rfl | (simp [errW_none,errW_some] <;> rfl) | (simp [*,errW_none,errW_some] <;> rfl),by repeat (first | (with_reducible first | exact HB.out | apply below_alloc | apply pw_below_drewN | apply below_drew1) | exact HB.out)⟩
def freshetlaw03_num.f (a0 : Int) (a1 : Int) : Option ((List (S64)) × Int):=some ((([(⟨2,a0,0,(⟨#[]⟩ : ByteArray)⟩ : S64)] : List (S64))),a1)
set_option maxHeartbeats 8000000 in
set_option maxRecDepth 100000 in
theorem freshetlaw03_num.calls (a0 : Int) (a1 : Int) (r1 : List (S64)) (r2 : Int) (w : World) (h : freshetlaw03_num.f a0 a1 = some (r1,r2)) :
  Calls Tryz.prog 36 #[.int .i64 a0,.int .i64 a1] w fun e w'=>∃ v0_ : Value,e = .returned (.agg #[v0_,.int .i64 r2]) ∧ Kd.R k64 64 w' w.heap.size (fun _=>True) v0_ r1 ∧ Below w.heap.size w w':=by
 have hu48:=Tryz.underlying48
 have hu64:=Tryz.underlying64
 have HB:=Aside0.mk (Below.refl w.heap.size w)
 have H : (some ((([(⟨2,a0,0,(⟨#[]⟩ : ByteArray)⟩ : S64)] : List (S64))),a1)) = some (r1,r2):=h
 clear h
 obtain ⟨y143,hy143⟩ : ∃ y_ : List (S64),y_ = (([(⟨2,a0,0,(⟨#[]⟩ : ByteArray)⟩ : S64)] : List (S64))):=⟨_,rfl⟩
 replace H : (some (y143,a1)) = some (r1,r2):=by first | (rw [hy143];with_reducible exact H) | (have H2_:=(Option.bind_some _ _).symm.trans H;rw [hy143];with_reducible exact H2_) | (have H2_:=(Option.bind_some _ _).symm.trans H;with_reducible exact H2_) | with_reducible exact H | (rw [hy143];exact H) | exact H
 have Ny143:=Aside0.mk hy143
 clear hy143
 simp only [Option.some.injEq,Prod.mk.injEq] at H
 obtain ⟨rfl,rfl⟩:=H
 go_enter Tryz.func36,Tryz.ntmps36
 go_wp2_with (first | ((with_reducible refine gate_dst (N:=4) rfl ?_);refine box_event ?hg (N:=4) ?hd (cs:=#[.slice none 0 0,.int .i64 0]) (t:=48) ?hr ?_;(case hd=>rfl);(case hg=>rfl);(case hr=>first | (go_simp;done) | (go_simp;rfl));intro gb142 hg w3 hbox hb;have n0_:=Aside0.mk (below_step (by repeat (first | (with_reducible first | exact HB.out | apply below_alloc | apply pw_below_drewN | apply below_drew1) | exact HB.out)) hb);have n1_:=Aside0.mk (hbox);have n2_:=Aside0.mk ((by rw [hg];exact (below_size (by repeat (first | (with_reducible first | exact HB.out | apply below_alloc | apply pw_below_drewN | apply below_drew1) | exact HB.out))) : w.heap.size ≤ gb142));have n3_:=Aside0.mk ((by rw [hg];exact (below_size (by repeat (first | (with_reducible first | exact HB.out | apply below_alloc | apply pw_below_drewN | apply below_drew1) | exact HB.out))) : w.heap.size ≤ gb142));clear HB;have HB:=n0_;have BK142:=n1_;have GW142:=n2_;have GE142:=n3_;clear n0_ n1_ n2_ n3_;clear hb hbox hg) | ((with_reducible refine gate_dst (N:=7) rfl ?_);refine Kd.R_lit k64 _ 64 ?hg (N:=7) ?hd (xs:=([(⟨2,a0,0,(⟨#[]⟩ : ByteArray)⟩ : S64)] : List (S64))) (inner:=[.int .i64 2,.int .i64 a0,.int .u64 0,.string (⟨#[]⟩ : ByteArray)]) (ok:=fun _=>True) (okp:=fun _=>True) ?hr ?hp (fun _ hk=>hk) trivial (Below.refl _ _) (Nat.le_refl _) (by simp) ?_;(case hd=>rfl);(case hg=>rfl);(case hr=>first | (go_simp;done) | (go_simp;rfl));(case hp=>exact (Reps.c4 (show Kd.M k64 _ _ _ (⟨2,a0,0,(⟨#[]⟩ : ByteArray)⟩ : S64) [.int .i64 2,.int .i64 a0,.int .u64 0,.string (⟨#[]⟩ : ByteArray)] from (k64_mkM _ _ _ (⟨2,a0,0,(⟨#[]⟩ : ByteArray)⟩ : S64) )) (Reps.none _ _)));intro v144 w4 ho5 hb hg_ hnew_;clear hg_ hnew_;(first | rw [← Ny143.out] at ho5 | (simp only [Int.reduceToNat] at ho5;rw [← Ny143.out] at ho5));have n0_:=Aside0.mk (Kd.R_lower ho5 (below_size (by repeat (first | (with_reducible first | exact HB.out | apply below_alloc | apply pw_below_drewN | apply below_drew1 | refine below_set ?_ GE142.out) | exact HB.out))));have n1_:=Aside0.mk (blk_below (g:=gb142) (o:=.cells #[.slice none 0 0,.int .i64 0] 48 (0,0)) (by (with_reducible repeat (first | refine blk_drewN ?_ _ | refine blk_drew ?_ | refine blk_alloc ?_ _));exact BK142.out) hb);have n2_:=Aside0.mk (below_step (by repeat (first | (with_reducible first | exact HB.out | apply below_alloc | apply pw_below_drewN | apply below_drew1 | refine below_set ?_ GE142.out) | exact HB.out)) hb);clear BK142;clear HB;have HO145:=n0_;have BK142:=n1_;have HB:=n2_;clear n0_ n1_ n2_;clear hb ho5;obtain ⟨Ao6,co6,eo6⟩:=Kd.R_slice HO145.out;subst eo6;have hcz7_0 : w4.cell? ⟨gb142,0,none⟩ = some (.slice none 0 0):=(blk_cell BK142.out 0).trans rfl;have hcz7_1 : w4.cell? ⟨gb142,1,none⟩ = some (.int .i64 0):=(blk_cell BK142.out 1).trans rfl;have hfz7_0:=blk_frozen BK142.out 0;have hfz7_1:=blk_frozen BK142.out 1))
 refine bodyPost_ret (results_cell_row rfl _ _ gb142 48 #[.slice Ao6 y143.length co6,.int .i64 a1] (0,0) _ rfl (by (with_reducible repeat (first | refine blk_drewN ?_ _ | refine blk_drew ?_ | refine blk_alloc ?_ _));refine blk_put (cs:=#[.slice Ao6 y143.length co6,.int .i64 0]) ?_ 1 _ rfl;(with_reducible repeat (first | refine blk_drewN ?_ _ | refine blk_drew ?_ | refine blk_alloc ?_ _));refine blk_put (cs:=#[.slice none 0 0,.int .i64 0]) ?_ 0 _ rfl;(with_reducible repeat (first | refine blk_drewN ?_ _ | refine blk_drew ?_ | refine blk_alloc ?_ _));exact BK142.out) Tryz.underlying48 rfl (by kernel_rfl)) rfl ?_
 exact ⟨_,by first | rfl | (simp [errW_none,errW_some] <;> rfl) | (simp [*,errW_none,errW_some] <;> rfl),by (with_reducible repeat (first | apply Kd.R_alloc | apply Kd.R_drewN | apply Kd.R_drew));exact Kd.R_mono (Kd.R_far (p:=⟨gb142,1,none⟩) (Kd.R_far (p:=⟨gb142,0,none⟩) (Kd.R_types HO145.out BK142.out (by decide)) (fun _ hk=>hk.2) (.slice Ao6 y143.length co6)) (fun _ hk=>hk.2) (.int .i64 a1)) (fun _ hk=>trivial),by repeat (first | (with_reducible first | exact HB.out | apply below_alloc | apply pw_below_drewN | apply below_drew1 | refine below_set ?_ GE142.out) | exact HB.out)⟩
def freshetref03_Neg.l0 : Nat → List (S48) → List (S48) → Int → Option ((List (S48)) × Int)
 | 0,_,_,_=>none
 | k + 1,x0,x4,x5=>if x5 < (x0.length : Int) then (if 0 ≤ x5 then ((freshetref03_copied.f ((rd_T48 x0 x5).f0)).bind fun t151=>(if x4.length < 4398046511104 then (freshetref03_Neg.l0 k x0 (x4 ++ [(⟨t151,wrap64 (-((rd_T48 x0 x5).f1))⟩ : S48)]) (wrap64 (x5 + 1))) else (none))) else (none)) else (some (x4,0))
def freshetref03_Neg.f (k : Nat) (l0 : List (S48)) : Option ((List (S48)) × Int):=(xSound3.f l0).bind fun t146=>(if t146 = true then (freshetref03_Neg.l0 k l0 (([] : List (S48))) 0) else (some (([] : List (S48)),1)))
theorem freshetref03_Neg.mono_l : ∀ k,(∀ y0 y1 y2,LeO (freshetref03_Neg.l0 k y0 y1 y2) (freshetref03_Neg.l0 (k + 1) y0 y1 y2))
 | 0=>fun _ _ _ r h=>by simp [freshetref03_Neg.l0] at h
 | k + 1=>by
  have ih0:=freshetref03_Neg.mono_l k
  ·intro y0 y1 y2
   unfold freshetref03_Neg.l0
   repeat' first
   | (with_reducible exact ih0 _ _ _)
   | (with_reducible exact LeO.refl _)
   | (with_reducible exact LeO.none _)
   | (with_reducible refine LeO.ite ?_ ?_)
   | (with_reducible refine LeO.bind ?_ (fun _=>?_))
   | exact ih0 _ _ _
   | exact LeO.none _
   | refine LeO.ite ?_ ?_
   | refine LeO.bind ?_ (fun _=>?_)
theorem freshetref03_Neg.mono : ∀ a0 k,LeO (freshetref03_Neg.f k a0) (freshetref03_Neg.f (k + 1) a0):=by
 intro a0 k
 have ih0:=freshetref03_Neg.mono_l k
 unfold freshetref03_Neg.f
 repeat' first
   | (with_reducible exact ih0 _ _ _)
   | (with_reducible exact LeO.refl _)
   | (with_reducible exact LeO.none _)
   | (with_reducible refine LeO.ite ?_ ?_)
   | (with_reducible refine LeO.bind ?_ (fun _=>?_))
   | exact ih0 _ _ _
   | exact LeO.none _
   | refine LeO.ite ?_ ?_
   | refine LeO.bind ?_ (fun _=>?_)
def freshetref03_Neg.T7 : Bool × List (List Nat × List Nat):=(true,[([],[]),([],[]),([],[]),([1,2],[1,2]),([3],[3]),([4],[4]),([5],[5]),([],[]),([],[]),([7,8],[7,8]),([9],[9]),([10],[10]),([11],[11]),([6,12],[6,12]),([13],[13]),([0,14,6],[0,14]),([15,15,0,1,2,3,4,5,6,7,8,9,10,11,12,13,14,15],[0,15])])
def freshetref03_Neg.B7 : List Nat:=[0,0,0,6,14,30,62,0,0,384,896,1920,3968,8190,16382,32767,65535]
theorem freshetref03_Neg.tab7 : rtab .any (opsOf Tryz.f23 7) = freshetref03_Neg.T7:=by kernel_rfl
theorem freshetref03_Neg.bits7 : waitsOk freshetref03_Neg.T7.2 freshetref03_Neg.B7 = true:=by kernel_rfl
set_option maxHeartbeats 8000000 in
set_option maxRecDepth 100000 in
theorem freshetref03_Neg.calls (k : Nat) (A0 : Option Addr) (c0 : Nat) (l0 : List (S48)) (r1 : List (S48)) (r2 : Int) (w : World) (hr0 : Kd.C k48 w A0 l0.length l0) (hc0 : l0.length ≤ c0) (h : freshetref03_Neg.f k l0 = some (r1,r2)) :
  Calls Tryz.prog 23 #[.slice A0 l0.length c0] w fun e w'=>∃ v0_ : Value,e = .returned (.tuple #[v0_,.int .i64 r2]) ∧ Kd.R k48 48 w' w.heap.size (fun _=>True) v0_ r1 ∧ Below w.heap.size w w':=by
 have hu48:=Tryz.underlying48
 have HR0:=Aside0.mk hr0
 have HC0:=Aside0.mk hc0
 clear hr0 hc0
 have HB:=Aside0.mk (Below.refl w.heap.size w)
 have H : ((xSound3.f l0).bind fun t146=>(if t146 = true then (freshetref03_Neg.l0 k l0 (([] : List (S48))) 0) else (some (([] : List (S48)),1)))) = some (r1,r2):=h
 clear h
 replace H:=Option.bind_eq_some_iff.mp H
 obtain ⟨t146,A20,H⟩:=H
 replace H : (if t146 = true then (freshetref03_Neg.l0 k l0 (([] : List (S48))) 0) else (some (([] : List (S48)),1))) = some (r1,r2):=H
 have A2:=Aside0.mk A20
 clear A20
 by_cases c3 : t146 = true
 ·subst c3
  have H1 : (freshetref03_Neg.l0 k l0 (([] : List (S48))) 0) = some (r1,r2):=by rw [if_pos rfl] at H;exact H
  clear H
  have H:=H1
  clear H1
  obtain ⟨y147,hy147⟩ : ∃ y_ : List (S48),y_ = (([] : List (S48))):=⟨_,rfl⟩
  replace H : (freshetref03_Neg.l0 k l0 y147 0) = some (r1,r2):=by first | (rw [hy147];with_reducible exact H) | (have H2_:=(Option.bind_some _ _).symm.trans H;rw [hy147];with_reducible exact H2_) | (have H2_:=(Option.bind_some _ _).symm.trans H;with_reducible exact H2_) | with_reducible exact H | (rw [hy147];exact H) | exact H
  have Ny147:=Aside0.mk hy147
  clear hy147
  have H':=Aside0.mk H
  clear H
  go_enter Tryz.func23,Tryz.ntmps23
  go_wp2_with (first | ((with_reducible refine gate_callee (f:=13) rfl ?_);refine goesL_ (some 7) rfl rfl Tryz.func13 (by kernel_rfl) rfl #[.slice A0 l0.length c0] rfl (by (try simp only [List.map_toArray,List.map_cons,List.map_nil]);first | done | rfl | (simp only [List.length_drop,List.length_take];rfl)) ?_;(with_reducible refine (xSound3.calls _ _ l0 true _ ?side1 ?side2 A2.out).mono ?_);(case side1=>repeat (first | exact HR0.out | (with_reducible refine Kd.C_alloc ?_ _) | (with_reducible refine Kd.C_drewN ?_ _) | (with_reducible refine Kd.C_drew ?_)));(case side2=>exact HC0.out);rintro e w4 ⟨rfl,hb⟩;refine ⟨_,rfl, ?_⟩;have n0_:=Aside0.mk (below_step (by repeat (first | (with_reducible first | exact HB.out | apply below_alloc | apply pw_below_drewN | apply below_drew1) | exact HB.out)) hb);clear HB;have HB:=n0_;clear n0_;(try clear hb);(try clear hb2);(try clear hk);(try clear hi)) | ((with_reducible refine gate_dst (N:=9) rfl ?_);refine Kd.R_lit k48 _ 48 ?hg (N:=9) ?hd (xs:=([] : List (S48))) (inner:=[]) (ok:=fun _=>True) (okp:=fun _=>True) ?hr ?hp (fun _ hk=>hk) trivial (Below.refl _ _) (Nat.le_refl _) (by simp) ?_;(case hd=>rfl);(case hg=>rfl);(case hr=>first | (go_simp;done) | (go_simp;rfl));(case hp=>exact (Reps.none _ _));intro v148 w5 ho6 hb hg_ hnew_;clear hg_ hnew_;(first | rw [← Ny147.out] at ho6 | (simp only [Int.reduceToNat] at ho6;rw [← Ny147.out] at ho6));have n0_:=Aside0.mk (Kd.R_lower ho6 (below_size (by repeat (first | (with_reducible first | exact HB.out | apply below_alloc | apply pw_below_drewN | apply below_drew1) | exact HB.out))));have n1_:=Aside0.mk (below_step (by repeat (first | (with_reducible first | exact HB.out | apply below_alloc | apply pw_below_drewN | apply below_drew1) | exact HB.out)) hb);clear HB;have HO149:=n0_;have HB:=n1_;clear n0_ n1_;clear hb ho6))
  go_loopg [4,5] k (fun kq v4 v5 w'=>∃ (x4_1 : List (S48)) (x5_1 : Int),v5 = .int .i64 x5_1 ∧ Aside0 (freshetref03_Neg.l0 kq l0 x4_1 x5_1 = some (r1,r2)) ∧ Aside0 (kq ≤ k) ∧ Aside0 (Kd.R k48 48 w' w.heap.size (fun _=>True) v4 x4_1) ∧ Aside0 (Below w.heap.size w w'))
  case atStart=>exact ⟨(y147),(0),(by first | rfl | (simp;done) | (simp [*];done)),H',⟨Nat.le_refl _⟩,⟨by (with_reducible repeat (first | apply Kd.R_alloc | apply Kd.R_drewN | apply Kd.R_drew));exact HO149.out⟩,⟨by repeat (first | (with_reducible first | exact HB.out | apply below_alloc | apply pw_below_drewN | apply below_drew1) | exact HB.out)⟩⟩
  case round =>
   clear H'
   try clear c1
   try clear c2
   try clear p2
   try clear c3
   obtain ⟨x4_1,x5_1,rfl,HA,HK1,HO_4,HB⟩:=hrel
   cases gk with
   | zero=>exact absurd HA.out (by simp [freshetref03_Neg.l0])
   | succ k1 =>
    have H:=HA.out
    clear HA
    simp only [freshetref03_Neg.l0] at H
    by_cases c7 : x5_1 < (l0.length : Int)
    ·rw [if_pos c7] at H
     have c7b0 : decide (x5_1 < (l0.length : Int)) = true:=decide_eq_true c7
     clear c7
     by_cases c8 : 0 ≤ x5_1
     ·rw [if_pos c8] at H
      have c8b0 : decide (0 ≤ x5_1) = true:=decide_eq_true c8
      clear c8
      replace H:=Option.bind_eq_some_iff.mp H
      obtain ⟨t151,A90,H⟩:=H
      replace H : (if x4_1.length < 4398046511104 then (freshetref03_Neg.l0 k1 l0 (x4_1 ++ [(⟨t151,wrap64 (-((rd_T48 l0 x5_1).f1))⟩ : S48)]) (wrap64 (x5_1 + 1))) else (none)) = some (r1,r2):=H
      have A9:=Aside0.mk A90
      clear A90
      by_cases c10 : x4_1.length < 4398046511104
      ·rw [if_pos c10] at H
       have LMc10:=Aside0.mk c10
       clear c10
       obtain ⟨y155,hy155⟩ : ∃ y_ : List (S48),y_ = (x4_1 ++ [(⟨t151,wrap64 (-((rd_T48 l0 x5_1).f1))⟩ : S48)]):=⟨_,rfl⟩
       replace H : (freshetref03_Neg.l0 k1 l0 y155 (wrap64 (x5_1 + 1))) = some (r1,r2):=by first | (rw [hy155];with_reducible exact H) | (have H2_:=(Option.bind_some _ _).symm.trans H;rw [hy155];with_reducible exact H2_) | (have H2_:=(Option.bind_some _ _).symm.trans H;with_reducible exact H2_) | with_reducible exact H | (rw [hy155];exact H) | exact H
       have Ny155:=Aside0.mk hy155
       clear hy155
       have H':=Aside0.mk H
       clear H
       try go_wp2
       have n0_:=Aside0.mk (Kd.R_drew HO_4.out)
       have n1_:=Aside0.mk (below_drew1 HB.out)
       clear HO_4
       clear HB
       have HO_4:=n0_
       have HB:=n1_
       clear n0_ n1_
       have p150 : 0 ≤ (x5_1 : Int):=of_decide_eq_true (by first | (with_reducible assumption) | assumption)
       have q150 : x5_1 < (l0.length : Int):=of_decide_eq_true (by first | (with_reducible assumption) | assumption)
       obtain ⟨ad150,A150_0,c150_0,e150,hx150_0,hx150_1,hl150_0,hi150_0⟩:=at_T48 HR0.out x5_1 p150 q150
       have hw150_1:=hx150_1
       have hw150_0:=hx150_0
       cases e150
       replace hx150_0:=(HB.out.cell (World.block_lt_of_cell? w _ hx150_0)).trans hx150_0
       replace hx150_1:=(HB.out.cell (World.block_lt_of_cell? w _ hx150_1)).trans hx150_1
       have HR150_0:=Aside0.mk hi150_0
       have HC150_0:=Aside0.mk hl150_0
       clear hi150_0 hl150_0
       replace p150:=eq_true p150
       replace q150:=eq_true q150
       have p154 : 0 ≤ (x5_1 : Int):=of_decide_eq_true (by first | (with_reducible assumption) | assumption)
       have q154 : x5_1 < (l0.length : Int):=of_decide_eq_true (by first | (with_reducible assumption) | assumption)
       obtain ⟨ad154,A154_0,c154_0,e154,hx154_0,hx154_1,hl154_0,hi154_0⟩:=at_T48 HR0.out x5_1 p154 q154
       have hw154_1:=hx154_1
       have hw154_0:=hx154_0
       obtain rfl : ad150 = ad154:=(by injection e154)
       replace hx154_0:=(HB.out.cell (World.block_lt_of_cell? w _ hx154_0)).trans hx154_0
       replace hx154_1:=(HB.out.cell (World.block_lt_of_cell? w _ hx154_1)).trans hx154_1
       have HR154_0:=Aside0.mk hi154_0
       have HC154_0:=Aside0.mk hl154_0
       clear hi154_0 hl154_0
       replace p154:=eq_true p154
       replace q154:=eq_true q154
       have ea_:=Option.some.inj (hx150_0.symm.trans hx154_0)
       injection ea_ with ea_ en_ ec_
       subst ea_
       subst ec_
       clear en_
       refine start_ (n:=17) (S:=fun w'=>w'.cell? (ad150.add ((x5_1).toNat * 2)) = some (.slice A150_0 ((rd_T48 l0 x5_1).f0).length c150_0) ∧ w'.cell? ⟨(ad150.add ((x5_1).toNat * 2)).block,(ad150.add ((x5_1).toNat * 2)).off + 1,none⟩ = some (.int .i64 ((rd_T48 l0 x5_1).f1)) ∧ w'.cell? (ad150.add ((x5_1).toNat * 2)) = some (.slice A150_0 ((rd_T48 l0 x5_1).f0).length c150_0) ∧ w'.cell? ⟨(ad150.add ((x5_1).toNat * 2)).block,(ad150.add ((x5_1).toNat * 2)).off + 1,none⟩ = some (.int .i64 ((rd_T48 l0 x5_1).f1))) (ds:=[]) #[false,false,false,false,false,false,false,false,false,false,false,false,false,false,false,false,false] (by kernel_rfl) rfl rfl ⟨((HB.out.cell (World.block_lt_of_cell? w _ hw150_0)).trans hw150_0),((HB.out.cell (World.block_lt_of_cell? w _ hw150_1)).trans hw150_1),((HB.out.cell (World.block_lt_of_cell? w _ hw154_0)).trans hw154_0),((HB.out.cell (World.block_lt_of_cell? w _ hw154_1)).trans hw154_1)⟩ (fun hHeld=>?_);refine with_tabW freshetref03_Neg.tab7 freshetref03_Neg.bits7 (fun HT_ HW_=>?_)
       generalize wr.drew = w11 at HO_4 HB HR150_0 HR154_0 hx150_0 hx150_1 hx154_0 hx154_1 hHeld ⊢
       refine pure_ (i:=0) (N:=some 16) (v:=?_) (a':=?_) #[true,false,false,false,false,false,false,false,false,false,false,false,false,false,false,false,false] rfl rfl (any_of HT_.out (by kernel_rfl)) (fun _ _ _ h=>h) (Or.inl ⟨by rfl, ?_⟩) ?_ ?_
       rotate_left
       ·intro w'
        go_simp
        with_reducible rfl
       rotate_left
       ·simp only [Act.put,List.setIfInBounds_toArray,List.set_cons_zero,List.set_cons_succ,i64_w,i32_w]
        rfl
       refine pure_ (i:=1) (N:=some 17) (v:=?_) (a':=?_) #[true,true,false,false,false,false,false,false,false,false,false,false,false,false,false,false,false] rfl rfl (any_of HT_.out (by kernel_rfl)) (fun _ _ _ h=>h) (Or.inl ⟨by rfl, ?_⟩) ?_ ?_
       rotate_left
       ·intro w'
        go_simp
        with_reducible rfl
       rotate_left
       ·simp only [Act.put,List.setIfInBounds_toArray,List.set_cons_zero,List.set_cons_succ,i64_w,i32_w]
        rfl
       refine pure_ (i:=2) (N:=some 18) (v:=?_) (a':=?_) #[true,true,true,false,false,false,false,false,false,false,false,false,false,false,false,false,false] rfl rfl (any_of HT_.out (by kernel_rfl)) (fun _ _ _ h=>h) (Or.inl ⟨by rfl, ?_⟩) ?_ ?_
       rotate_left
       ·intro w'
        go_simp
        with_reducible rfl
       rotate_left
       ·simp only [Act.put,List.setIfInBounds_toArray,List.set_cons_zero,List.set_cons_succ,i64_w,i32_w]
        rfl
       refine pure_ (i:=3) (N:=some 19) (v:=?_) (a':=?_) #[true,true,true,true,false,false,false,false,false,false,false,false,false,false,false,false,false] rfl rfl (any_of HT_.out (by kernel_rfl)) (fun _ _ _ h=>h) (Or.inl ⟨by rfl, ?_⟩) ?_ ?_
       rotate_left
       ·intro w'
        go_simp
        with_reducible rfl
       rotate_left
       ·simp only [Act.put,List.setIfInBounds_toArray,List.set_cons_zero,List.set_cons_succ,i64_w,i32_w]
        rfl
       refine pure_ (i:=4) (N:=some 20) (v:=?_) (a':=?_) #[true,true,true,true,true,false,false,false,false,false,false,false,false,false,false,false,false] rfl rfl (any_of HT_.out (by kernel_rfl)) (fun _ _ _ h=>h) (Or.inl ⟨by rfl, ?_⟩) ?_ ?_
       rotate_left
       ·intro w'
        go_simp
        with_reducible rfl
       rotate_left
       ·simp only [Act.put,List.setIfInBounds_toArray,List.set_cons_zero,List.set_cons_succ,i64_w,i32_w]
        rfl
       refine pure_ (i:=7) (N:=some 23) (v:=?_) (a':=?_) #[true,true,true,true,true,false,false,true,false,false,false,false,false,false,false,false,false] rfl rfl (any_of HT_.out (by kernel_rfl)) (fun _ _ _ h=>h) (Or.inl ⟨by rfl, ?_⟩) ?_ ?_
       rotate_left
       ·intro w'
        go_simp
        with_reducible rfl
       rotate_left
       ·simp only [Act.put,List.setIfInBounds_toArray,List.set_cons_zero,List.set_cons_succ,i64_w,i32_w]
        rfl
       refine pure_ (i:=8) (N:=some 24) (v:=?_) (a':=?_) #[true,true,true,true,true,false,false,true,true,false,false,false,false,false,false,false,false] rfl rfl (any_of HT_.out (by kernel_rfl)) (fun _ _ _ h=>h) (Or.inl ⟨by rfl, ?_⟩) ?_ ?_
       rotate_left
       ·intro w'
        go_simp
        with_reducible rfl
       rotate_left
       ·simp only [Act.put,List.setIfInBounds_toArray,List.set_cons_zero,List.set_cons_succ,i64_w,i32_w]
        rfl
       refine pure_ (i:=9) (N:=some 25) (v:=?_) (a':=?_) #[true,true,true,true,true,false,false,true,true,true,false,false,false,false,false,false,false] rfl rfl (any_of HT_.out (by kernel_rfl)) (fun _ _ _ h=>h) (Or.inl ⟨by rfl, ?_⟩) ?_ ?_
       rotate_left
       ·intro w'
        go_simp
        with_reducible rfl
       rotate_left
       ·simp only [Act.put,List.setIfInBounds_toArray,List.set_cons_zero,List.set_cons_succ,i64_w,i32_w]
        rfl
       refine pure_ (i:=10) (N:=some 26) (v:=?_) (a':=?_) #[true,true,true,true,true,false,false,true,true,true,true,false,false,false,false,false,false] rfl rfl (any_of HT_.out (by kernel_rfl)) (fun _ _ _ h=>h) (Or.inl ⟨by rfl, ?_⟩) ?_ ?_
       rotate_left
       ·intro w'
        go_simp
        with_reducible rfl
       rotate_left
       ·simp only [Act.put,List.setIfInBounds_toArray,List.set_cons_zero,List.set_cons_succ,i64_w,i32_w]
        rfl
       refine take_ (i:=5) (N:=some 21) (v:=?_) (a':=?_) #[true,true,true,true,true,true,false,true,true,true,true,false,false,false,false,false,false] rfl rfl (take_ofW HT_.out HW_.out (by kernel_rfl)) (fun _ _ _ h=>h) (Or.inl ⟨by rfl, ?_⟩) hHeld ?_ ?_
       rotate_left
       ·rintro w' ⟨s0,s1,s2,s3⟩
        go_simp
        with_reducible rfl
       rotate_left
       ·simp only [Act.put,List.setIfInBounds_toArray,List.set_cons_zero,List.set_cons_succ,i64_w,i32_w]
        rfl
       refine take_ (i:=11) (N:=some 27) (v:=?_) (a':=?_) #[true,true,true,true,true,true,false,true,true,true,true,true,false,false,false,false,false] rfl rfl (take_ofW HT_.out HW_.out (by kernel_rfl)) (fun _ _ _ h=>h) (Or.inl ⟨by rfl, ?_⟩) hHeld ?_ ?_
       rotate_left
       ·rintro w' ⟨s0,s1,s2,s3⟩
        go_simp
        with_reducible rfl
       rotate_left
       ·simp only [Act.put,List.setIfInBounds_toArray,List.set_cons_zero,List.set_cons_succ,i64_w,i32_w]
        rfl
       refine pure_ (i:=12) (N:=some 28) (v:=?_) (a':=?_) #[true,true,true,true,true,true,false,true,true,true,true,true,true,false,false,false,false] rfl rfl (any_of HT_.out (by kernel_rfl)) (fun _ _ _ h=>h) (Or.inl ⟨by rfl, ?_⟩) ?_ ?_
       rotate_left
       ·intro w'
        go_simp
        with_reducible rfl
       rotate_left
       ·simp only [Act.put,List.setIfInBounds_toArray,List.set_cons_zero,List.set_cons_succ,i64_w,i32_w]
        rfl
       refine one_ (i:=6) (N:=some 22) #[true,true,true,true,true,true,true,true,true,true,true,true,true,false,false,false,false] rfl rfl (one_of HT_.out (by kernel_rfl)) (by decide) (fun K hK=>?_)
       refine goes_ Tryz.func49 (by kernel_rfl) rfl #[.slice A150_0 ((rd_T48 l0 x5_1).f0).length c150_0] (by rfl) rfl rfl (by (try simp only [List.map_toArray,List.map_cons,List.map_nil]);first | done | rfl | (simp only [List.length_drop,List.length_take];rfl)) ?_
       with_reducible refine (freshetref03_copied.calls _ _ ((rd_T48 l0 x5_1).f0) t151 _ ?side1 ?side2 A9.out).mono ?_
       (case side1=>repeat (first | exact (Kd.C_below HR150_0.out HB.out) | (with_reducible refine Kd.C_alloc ?_ _) | (with_reducible refine Kd.C_drewN ?_ _) | (with_reducible refine Kd.C_drew ?_)))
       (case side2=>exact HC150_0.out)
       rintro e w12 ⟨v152,rfl,ho0,hb⟩
       refine ⟨_,rfl, ?_⟩
       have n0_:=Aside0.mk (Kd.R_elder' (by (with_reducible repeat (first | apply Kd.R_alloc | apply Kd.R_drewN | apply Kd.R_drew));exact HO_4.out) (Kd.R_base ho0) hb)
       have n1_:=Aside0.mk (Kd.R_lower ho0 (below_size (by repeat (first | (with_reducible first | exact HB.out | apply below_alloc | apply pw_below_drewN | apply below_drew1) | exact HB.out))))
       have n2_:=Aside0.mk (below_step (by repeat (first | (with_reducible first | exact HB.out | apply below_alloc | apply pw_below_drewN | apply below_drew1) | exact HB.out)) hb)
       clear HO_4
       clear HB
       have HO_4:=n0_
       have HO153:=n1_
       have HB:=n2_
       clear n0_ n1_ n2_
       (try clear hb)
       (try clear hb2)
       (try clear hk)
       (try clear hi)
       (try clear ho0)
       obtain ⟨Ao13,co13,eo13⟩:=Kd.R_slice HO153.out
       (first | subst eo13 | (injection eo13 with f1_ f2_ f3_;have f4_:=f1_.symm;have f5_:=f3_.symm;clear f1_ f2_ f3_;subst f4_;subst f5_))
       refine hK.out _ _ ⟨((HB.out.cell (World.block_lt_of_cell? w _ hw150_0)).trans hw150_0),((HB.out.cell (World.block_lt_of_cell? w _ hw150_1)).trans hw150_1),((HB.out.cell (World.block_lt_of_cell? w _ hw154_0)).trans hw154_0),((HB.out.cell (World.block_lt_of_cell? w _ hw154_1)).trans hw154_1)⟩ (fun hHeld=>?_)
       clear hK K
       refine norm_ (a':=?_) ?_ ?_
       rotate_left
       ·show Act.put _ (some 22) _ = _
        simp only [Act.put,List.setIfInBounds_toArray,List.set_cons_zero,List.set_cons_succ,i64_w,i32_w]
        rfl
       refine pure_ (i:=13) (N:=some 29) (v:=?_) (a':=?_) #[true,true,true,true,true,true,true,true,true,true,true,true,true,true,false,false,false] rfl rfl (any_of HT_.out (by kernel_rfl)) (fun _ _ _ h=>h) (Or.inl ⟨by rfl, ?_⟩) ?_ ?_
       rotate_left
       ·intro w'
        go_simp
        with_reducible rfl
       rotate_left
       ·simp only [Act.put,List.setIfInBounds_toArray,List.set_cons_zero,List.set_cons_succ,i64_w,i32_w]
        rfl
       refine one_ (i:=14) (N:=some 30) #[true,true,true,true,true,true,true,true,true,true,true,true,true,true,true,false,false] rfl rfl (one_of HT_.out (by kernel_rfl)) (by decide) (fun K hK=>?_)
       refine value_ (w1:=?_) (v:=?_) (by rfl) rfl ?_ ?_
       rotate_left 2
       ·go_simp
        constructor
        ·rfl
        ·rfl
       refine hK.out _ _ ⟨(World.cell?_alloc_lt _ _ _ (World.block_lt_of_cell? _ _ (((HB.out.cell (World.block_lt_of_cell? w _ hw150_0)).trans hw150_0)))).trans (((HB.out.cell (World.block_lt_of_cell? w _ hw150_0)).trans hw150_0)),(World.cell?_alloc_lt _ _ _ (World.block_lt_of_cell? _ _ (((HB.out.cell (World.block_lt_of_cell? w _ hw150_1)).trans hw150_1)))).trans (((HB.out.cell (World.block_lt_of_cell? w _ hw150_1)).trans hw150_1)),(World.cell?_alloc_lt _ _ _ (World.block_lt_of_cell? _ _ (((HB.out.cell (World.block_lt_of_cell? w _ hw154_0)).trans hw154_0)))).trans (((HB.out.cell (World.block_lt_of_cell? w _ hw154_0)).trans hw154_0)),(World.cell?_alloc_lt _ _ _ (World.block_lt_of_cell? _ _ (((HB.out.cell (World.block_lt_of_cell? w _ hw154_1)).trans hw154_1)))).trans (((HB.out.cell (World.block_lt_of_cell? w _ hw154_1)).trans hw154_1))⟩ (fun hHeld=>?_)
       clear hK K
       refine norm_ (a':=?_) ?_ ?_
       rotate_left
       ·show Act.put _ (some 30) _ = _
        simp only [Act.put,List.setIfInBounds_toArray,List.set_cons_zero,List.set_cons_succ,i64_w,i32_w]
        rfl
       refine one_ (i:=15) (N:=some 31) #[true,true,true,true,true,true,true,true,true,true,true,true,true,true,true,true,false] rfl rfl (one_of HT_.out (by kernel_rfl)) (by decide) (fun K hK=>?_)
       refine Kd.R_append_step k48 (w0:=w) w.heap.size (by rfl) (.tmp 16) (.tmp 30) 26 48 (.agg #[(.slice none 0 0),(.int .i64 0)]) 32 rfl Tryz.underlying26 info48 rfl (by decide) (by omega) u4 x4_1 (⟨t151,wrap64 (-((rd_T48 l0 x5_1).f1))⟩ : S48) [.slice Ao13 t151.length co13,.int .i64 (wrap64 (-((rd_T48 l0 x5_1).f1)))] (fun _=>True) (fun k_=>((fun _=>True)) k_ ∧ some k_ ≠ (u4 : Value).ownBlock) rfl rfl ?aP (fun _ hk=>hk) ?aF ?aO ?aB ?aS ?aL ?_
       (case aP=>exact k48_mkM _ _ _ (⟨t151,wrap64 (-((rd_T48 l0 x5_1).f1))⟩ : S48) (Kd.R_mono (Kd.R_apart' (HO153.out) (Kd.R_typed HO_4.out) (by decide)) (fun k_ hk=>⟨trivial,hk.2⟩)))
       (case aB=>exact (by repeat (first | (with_reducible first | exact HB.out | apply below_alloc | apply pw_below_drewN | apply below_drew1) | exact HB.out)))
       (case aF=>exact (fun _ _=>trivial))
       (case aO=>exact (by (with_reducible repeat (first | apply Kd.R_alloc | apply Kd.R_drewN | apply Kd.R_drew));exact Kd.R_mono HO_4.out (fun _ hk=>trivial)))
       (case aS=>exact (below_size (by repeat (first | (with_reducible first | exact HB.out | apply below_alloc | apply pw_below_drewN | apply below_drew1) | exact HB.out))))
       (case aL=>have:=LMc10.out;omega)
       intro v156 w14 ho hb hg hat
       rw [← Ny155.out] at ho
       have n0_:=Aside0.mk (hb)
       have n1_:=Aside0.mk (ho)
       clear HB
       clear HO_4
       clear HO153
       have HB:=n0_
       have HO157:=n1_
       clear n0_ n1_
       clear ho hb hg hat
       refine hK.out _ _ ⟨((HB.out.cell (World.block_lt_of_cell? w _ hw150_0)).trans hw150_0),((HB.out.cell (World.block_lt_of_cell? w _ hw150_1)).trans hw150_1),((HB.out.cell (World.block_lt_of_cell? w _ hw154_0)).trans hw154_0),((HB.out.cell (World.block_lt_of_cell? w _ hw154_1)).trans hw154_1)⟩ (fun hHeld=>?_)
       clear hK K
       refine norm_ (a':=?_) ?_ ?_
       rotate_left
       ·show Act.put _ (some 31) _ = _
        simp only [Act.put,List.setIfInBounds_toArray,List.set_cons_zero,List.set_cons_succ,i64_w,i32_w]
        rfl
       refine pure_ (i:=16) (N:=some 4) (v:=?_) (a':=?_) #[true,true,true,true,true,true,true,true,true,true,true,true,true,true,true,true,true] rfl rfl (any_of HT_.out (by kernel_rfl)) (fun _ _ _ h=>h) (Or.inl ⟨by rfl, ?_⟩) ?_ ?_
       rotate_left
       ·intro w'
        go_simp
        with_reducible rfl
       rotate_left
       ·simp only [Act.put,List.setIfInBounds_toArray,List.set_cons_zero,List.set_cons_succ,i64_w,i32_w]
        rfl
       refine done_ (done_of HT_.out (by kernel_rfl)) ?_
       try go_wp2
       go_roundg k1
       case measure=>have:=HK1.out;omega
       case rel=>exact ⟨(y155),(wrap64 (x5_1 + 1)),(by first | rfl | (simp;done) | (simp [*];done)),H',⟨by have:=HK1.out;omega⟩,⟨by (with_reducible repeat (first | apply Kd.R_alloc | apply Kd.R_drewN | apply Kd.R_drew));exact HO157.out⟩,⟨by repeat (first | (with_reducible first | exact HB.out | apply below_alloc | apply pw_below_drewN | apply below_drew1) | exact HB.out)⟩⟩
      ·rw [if_neg c10] at H
       exact absurd H (by simp)
     ·rw [if_neg c8] at H
      exact absurd H (by simp)
    ·rw [if_neg c7] at H
     have c7b0 : decide (x5_1 < (l0.length : Int)) = false:=decide_eq_false c7
     clear c7
     simp only [Option.some.injEq,Prod.mk.injEq] at H
     obtain ⟨rfl,rfl⟩:=H
     go_wp2
     go_ret2
     exact ⟨_,by first | rfl | (simp [errW_none,errW_some] <;> rfl) | (simp [*,errW_none,errW_some] <;> rfl),by (with_reducible repeat (first | apply Kd.R_alloc | apply Kd.R_drewN | apply Kd.R_drew));exact HO_4.out,by repeat (first | (with_reducible first | exact HB.out | apply below_alloc | apply pw_below_drewN | apply below_drew1) | exact HB.out)⟩
 ·replace c3:=Bool.eq_false_iff.mpr c3
  subst c3
  have H1 : (some (([] : List (S48)),1)) = some (r1,r2):=by rw [if_neg (show ¬ (false = true) by decide)] at H;exact H
  clear H
  have H:=H1
  clear H1
  simp only [Option.some.injEq,Prod.mk.injEq] at H
  obtain ⟨rfl,rfl⟩:=H
  go_enter Tryz.func23,Tryz.ntmps23
  go_wp2_with (first | ((with_reducible refine gate_callee (f:=13) rfl ?_);refine goesL_ (some 7) rfl rfl Tryz.func13 (by kernel_rfl) rfl #[.slice A0 l0.length c0] rfl (by (try simp only [List.map_toArray,List.map_cons,List.map_nil]);first | done | rfl | (simp only [List.length_drop,List.length_take];rfl)) ?_;(with_reducible refine (xSound3.calls _ _ l0 false _ ?side1 ?side2 A2.out).mono ?_);(case side1=>repeat (first | exact HR0.out | (with_reducible refine Kd.C_alloc ?_ _) | (with_reducible refine Kd.C_drewN ?_ _) | (with_reducible refine Kd.C_drew ?_)));(case side2=>exact HC0.out);rintro e w15 ⟨rfl,hb⟩;refine ⟨_,rfl, ?_⟩;have n0_:=Aside0.mk (below_step (by repeat (first | (with_reducible first | exact HB.out | apply below_alloc | apply pw_below_drewN | apply below_drew1) | exact HB.out)) hb);clear HB;have HB:=n0_;clear n0_;(try clear hb);(try clear hb2);(try clear hk);(try clear hi)))
  go_ret2
  exact ⟨_,by first | rfl | (simp [errW_none,errW_some] <;> rfl) | (simp [*,errW_none,errW_some] <;> rfl),by first | exact Kd.R_nil _ _ _ _ _ | exact Kd.N_nil _ _ _ _ _ | exact Kd.V_nil _ _ _ _ _ | exact Kd.Q_nil _ _ _ _ _ | exact Kd.S_nil _ _ _ _ _,by repeat (first | (with_reducible first | exact HB.out | apply below_alloc | apply pw_below_drewN | apply below_drew1) | exact HB.out)⟩
end Go.Proofs.YthpkjkcfhipjhaaGreatDoor.PZB
end
