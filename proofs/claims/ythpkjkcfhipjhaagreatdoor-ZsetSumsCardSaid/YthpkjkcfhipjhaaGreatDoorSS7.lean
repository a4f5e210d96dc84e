/- a part of the claim: what the card leans on, out of the texts PRWx2, PRWx3 (put together by wip/tools/shake.py). -/
import Derived.Test.YthpkjkcfhipjhaaGreatDoorSS4
import Derived.Test.YthpkjkcfhipjhaaGreatDoorSS5
import Derived.Test.YthpkjkcfhipjhaaGreatDoorSS6
section
namespace Go.Proofs.YthpkjkcfhipjhaaGreatDoor.PRW
open Go.RowKit Go.Proofs.YthpkjkcfhipjhaaGreatDoorW.PrintWords Go.Proofs.YthpkjkcfhipjhaaGreatDoorW.PrintLast
set_option linter.unusedVariables false
set_option linter.unusedSimpArgs false
attribute [local go_sem high] eqA64
def row_Show.l0 : Nat → List ByteArray → List (S64) → Int → Int → Option (ByteArray)
 | 0,_,_,_,_=>none
 | k + 1,x3,x12,x13,x14=>if x14 < x13 then (if 0 ≤ x14 then (if x14 < (x12.length : Int) then ((xShow.f ((rd_T64 x12 x14).f0) ((rd_T64 x12 x14).f1) ((rd_T64 x12 x14).f2) ((rd_T64 x12 x14).f3)).bind fun t107=>(if x3.length < 8796093022208 then (row_Show.l0 k (x3 ++ [t107]) x12 x13 (wrap64 (x14 + 1))) else (none))) else (none)) else (none)) else ((xJoin.f x3 (⟨#[44,32]⟩ : ByteArray)).bind fun t111=>(if 1 + t111.size ≤ 9223372036854775807 then (if ((⟨#[40]⟩ : ByteArray) ++ t111).size + 1 ≤ 9223372036854775807 then (some (((⟨#[40]⟩ : ByteArray) ++ t111) ++ (⟨#[41]⟩ : ByteArray))) else (none)) else (none)))
def row_Show.f (k : Nat) (l0 : List (S64)) : Option (ByteArray):=(xRowSound.f l0).bind fun t101=>(if t101 = true then (if 0 ≤ (l0.length : Int) then (if ((l0.length : Int) : Int).toNat ≤ 17592186044416 then (row_Show.l0 k (([] : List ByteArray)) l0 (l0.length : Int) 0) else (none)) else (none)) else (some (⟨#[]⟩ : ByteArray)))
theorem row_Show.mono_l : ∀ k,(∀ y0 y1 y2 y3,LeO (row_Show.l0 k y0 y1 y2 y3) (row_Show.l0 (k + 1) y0 y1 y2 y3))
 | 0=>fun _ _ _ _ r h=>by simp [row_Show.l0] at h
 | k + 1=>by
  have ih0:=row_Show.mono_l k
  ·intro y0 y1 y2 y3
   unfold row_Show.l0
   repeat' first
   | (with_reducible exact ih0 _ _ _ _)
   | (with_reducible exact LeO.refl _)
   | (with_reducible exact LeO.none _)
   | (with_reducible refine LeO.ite ?_ ?_)
   | (with_reducible refine LeO.bind ?_ (fun _=>?_))
   | exact ih0 _ _ _ _
   | exact LeO.none _
   | refine LeO.ite ?_ ?_
   | refine LeO.bind ?_ (fun _=>?_)
theorem row_Show.mono : ∀ a0 k,LeO (row_Show.f k a0) (row_Show.f (k + 1) a0):=by
 intro a0 k
 have ih0:=row_Show.mono_l k
 unfold row_Show.f
 repeat' first
   | (with_reducible exact ih0 _ _ _ _)
   | (with_reducible exact LeO.refl _)
   | (with_reducible exact LeO.none _)
   | (with_reducible refine LeO.ite ?_ ?_)
   | (with_reducible refine LeO.bind ?_ (fun _=>?_))
   | exact ih0 _ _ _ _
   | exact LeO.none _
   | refine LeO.ite ?_ ?_
   | refine LeO.bind ?_ (fun _=>?_)
set_option maxHeartbeats 8000000 in
set_option maxRecDepth 100000 in
theorem row_Show.calls (k : Nat) (A0 : Option Addr) (c0 : Nat) (l0 : List (S64)) (r : ByteArray) (w : World) (hr0 : Kd.C k64 w A0 l0.length l0) (hc0 : l0.length ≤ c0) (hT : RTab w) (h : row_Show.f k l0 = some r) :
  Calls Tryz.prog 34 #[.slice A0 l0.length c0] w fun e w'=>e = .returned (.string r) ∧ Below w.heap.size w w':=by
 have hu64:=Tryz.underlying64
 have HR0:=Aside0.mk hr0
 have HC0:=Aside0.mk hc0
 clear hr0 hc0
 have HB:=Aside0.mk (Below.refl w.heap.size w)
 have HT:=Aside0.mk hT
 clear hT
 have H : ((xRowSound.f l0).bind fun t101=>(if t101 = true then (if 0 ≤ (l0.length : Int) then (if ((l0.length : Int) : Int).toNat ≤ 17592186044416 then (row_Show.l0 k (([] : List ByteArray)) l0 (l0.length : Int) 0) else (none)) else (none)) else (some (⟨#[]⟩ : ByteArray)))) = some r:=h
 clear h
 replace H:=Option.bind_eq_some_iff.mp H
 obtain ⟨t101,A20,H⟩:=H
 replace H : (if t101 = true then (if 0 ≤ (l0.length : Int) then (if ((l0.length : Int) : Int).toNat ≤ 17592186044416 then (row_Show.l0 k (([] : List ByteArray)) l0 (l0.length : Int) 0) else (none)) else (none)) else (some (⟨#[]⟩ : ByteArray))) = some r:=H
 have A2:=Aside0.mk A20
 clear A20
 by_cases c3 : t101 = true
 ·subst c3
  have H1 : (if 0 ≤ (l0.length : Int) then (if ((l0.length : Int) : Int).toNat ≤ 17592186044416 then (row_Show.l0 k (([] : List ByteArray)) l0 (l0.length : Int) 0) else (none)) else (none)) = some r:=by rw [if_pos rfl] at H;exact H
  clear H
  have H:=H1
  clear H1
  by_cases c4 : 0 ≤ (l0.length : Int)
  ·rw [if_pos c4] at H
   have c4b0:=eq_true c4
   have c4b1 : decide (0 ≤ (l0.length : Int)) = true:=decide_eq_true c4
   clear c4
   by_cases c5 : ((l0.length : Int) : Int).toNat ≤ 17592186044416
   ·rw [if_pos c5] at H
    have c5b0:=eq_true c5
    have c5b1 : decide (((l0.length : Int) : Int).toNat ≤ 17592186044416) = true:=decide_eq_true c5
    clear c5
    obtain ⟨y102,hy102⟩ : ∃ y_ : List ByteArray,y_ = (([] : List ByteArray)):=⟨_,rfl⟩
    replace H : (row_Show.l0 k y102 l0 (l0.length : Int) 0) = some r:=by first | (rw [hy102];with_reducible exact H) | (have H2_:=(Option.bind_some _ _).symm.trans H;rw [hy102];with_reducible exact H2_) | (have H2_:=(Option.bind_some _ _).symm.trans H;with_reducible exact H2_) | with_reducible exact H | (rw [hy102];exact H) | exact H
    have Ny102:=Aside0.mk hy102
    clear hy102
    have H':=Aside0.mk H
    clear H
    go_enter Tryz.func34,Tryz.ntmps34
    go_wp2_with (first | ((with_reducible refine gate_callee (f:=29) rfl ?_);refine goesL_ (some 7) rfl rfl Tryz.func29 (by kernel_rfl) rfl #[.slice A0 l0.length c0] rfl (by (try simp only [List.map_toArray,List.map_cons,List.map_nil]);first | done | rfl | (simp only [List.length_drop,List.length_take];rfl)) ?_;(with_reducible refine (xRowSound.calls _ _ l0 true _ ?side1 ?side2 A2.out).mono ?_);(case side1=>repeat (first | exact HR0.out | (with_reducible refine Kd.C_alloc ?_ _) | (with_reducible refine Kd.C_drewN ?_ _) | (with_reducible refine Kd.C_drew ?_)));(case side2=>exact HC0.out);rintro e w6 ⟨rfl,hb⟩;refine ⟨_,rfl, ?_⟩;have n0_:=Aside0.mk (below_step (by repeat (first | (with_reducible first | exact HB.out | apply below_alloc | apply pw_below_drewN | apply below_drew1) | exact HB.out)) hb);clear HB;have HB:=n0_;clear n0_;(try clear hb);(try clear hb2);(try clear hk);(try clear hi)) | ((with_reducible refine gate_dst (N:=11) rfl ?_);refine Kd.R_make0 Kd.string _ 9 rfl (N:=11) rfl 69 _ _ rfl (l0.length : Int) rfl rfl Tryz.underlying69 (.string ⟨#[]⟩) 16 info9 rfl (by decide) (by omega) (⟨#[]⟩ : ByteArray) (ok:=fun _=>True) (okp:=fun _=>True) rfl (fun _ hk=>hk) trivial (of_decide_eq_true (by first | (with_reducible assumption) | assumption)) (Nat.le_trans (Nat.mul_le_mul_right _ (of_decide_eq_true (by first | (with_reducible assumption) | assumption) : (l0.length : Int).toNat ≤ 17592186044416)) (by omega)) (Below.refl _ _) (Nat.le_refl _) ?_;intro v103 w7 ho8 hb hg_ hnew_;clear hg_ hnew_;(first | rw [← Ny102.out] at ho8 | (simp only [Int.reduceToNat] at ho8;rw [← Ny102.out] at ho8));have n0_:=Aside0.mk (Kd.R_lower ho8 (below_size (by repeat (first | (with_reducible first | exact HB.out | apply below_alloc | apply pw_below_drewN | apply below_drew1) | exact HB.out))));have n1_:=Aside0.mk (below_step (by repeat (first | (with_reducible first | exact HB.out | apply below_alloc | apply pw_below_drewN | apply below_drew1) | exact HB.out)) hb);clear HB;have HO104:=n0_;have HB:=n1_;clear n0_ n1_;clear hb ho8))
    go_loopg [3,14] k (fun kq v3 v14 w'=>∃ (x3_1 : List ByteArray) (x14_1 : Int),v14 = .int .i64 x14_1 ∧ Aside0 (row_Show.l0 kq x3_1 l0 (l0.length : Int) x14_1 = some r) ∧ Aside0 (kq ≤ k) ∧ Aside0 (Kd.R Kd.string 9 w' w.heap.size (fun _=>True) v3 x3_1) ∧ Aside0 (Below w.heap.size w w'))
    case atStart=>exact ⟨(y102),(0),(by first | rfl | (simp;done) | (simp [*];done)),H',⟨Nat.le_refl _⟩,⟨by (with_reducible repeat (first | apply Kd.R_alloc | apply Kd.R_drewN | apply Kd.R_drew));exact HO104.out⟩,⟨by repeat (first | (with_reducible first | exact HB.out | apply below_alloc | apply pw_below_drewN | apply below_drew1) | exact HB.out)⟩⟩
    case round =>
     clear H'
     try clear c2
     try clear p2
     try clear c3
     try clear c4
     try clear c4b0
     try clear c4b1
     try clear c5
     try clear c5b0
     try clear c5b1
     obtain ⟨x3_1,x14_1,rfl,HA,HK1,HO_3,HB⟩:=hrel
     cases gk with
     | zero=>exact absurd HA.out (by simp [row_Show.l0])
     | succ k1 =>
      have H:=HA.out
      clear HA
      simp only [row_Show.l0] at H
      by_cases c9 : x14_1 < (l0.length : Int)
      ·rw [if_pos c9] at H
       have c9b0 : decide (x14_1 < (l0.length : Int)) = true:=decide_eq_true c9
       clear c9
       by_cases c10 : 0 ≤ x14_1
       ·rw [if_pos c10] at H
        have c10b0 : decide (0 ≤ x14_1) = true:=decide_eq_true c10
        clear c10
        by_cases c11 : x14_1 < (l0.length : Int)
        ·rw [if_pos c11] at H
         have c11b0 : decide (x14_1 < (l0.length : Int)) = true:=decide_eq_true c11
         clear c11
         replace H:=Option.bind_eq_some_iff.mp H
         obtain ⟨t107,A120,H⟩:=H
         replace H : (if x3_1.length < 8796093022208 then (row_Show.l0 k1 (x3_1 ++ [t107]) l0 (l0.length : Int) (wrap64 (x14_1 + 1))) else (none)) = some r:=H
         have A12:=Aside0.mk A120
         clear A120
         by_cases c13 : x3_1.length < 8796093022208
         ·rw [if_pos c13] at H
          have LMc13:=Aside0.mk c13
          clear c13
          obtain ⟨y108,hy108⟩ : ∃ y_ : List ByteArray,y_ = (x3_1 ++ [t107]):=⟨_,rfl⟩
          replace H : (row_Show.l0 k1 y108 l0 (l0.length : Int) (wrap64 (x14_1 + 1))) = some r:=by first | (rw [hy108];with_reducible exact H) | (have H2_:=(Option.bind_some _ _).symm.trans H;rw [hy108];with_reducible exact H2_) | (have H2_:=(Option.bind_some _ _).symm.trans H;with_reducible exact H2_) | with_reducible exact H | (rw [hy108];exact H) | exact H
          have Ny108:=Aside0.mk hy108
          clear hy108
          have H':=Aside0.mk H
          clear H
          have p105 : 0 ≤ (x14_1 : Int):=of_decide_eq_true (by first | (with_reducible assumption) | assumption)
          have q105 : x14_1 < (l0.length : Int):=of_decide_eq_true (by first | (with_reducible assumption) | assumption)
          obtain ⟨ad105,e105,hx105_0,hx105_1,hx105_2,hx105_3⟩:=at_T64 HR0.out x14_1 p105 q105
          cases e105
          replace hx105_0:=(HB.out.cell (World.block_lt_of_cell? w _ hx105_0)).trans hx105_0
          replace hx105_1:=(HB.out.cell (World.block_lt_of_cell? w _ hx105_1)).trans hx105_1
          replace hx105_2:=(HB.out.cell (World.block_lt_of_cell? w _ hx105_2)).trans hx105_2
          replace hx105_3:=(HB.out.cell (World.block_lt_of_cell? w _ hx105_3)).trans hx105_3
          replace p105:=eq_true p105
          replace q105:=eq_true q105
          go_wp2_with (first | ((with_reducible refine gate_dst (N:=5) rfl ?_);refine box_event ?hg (N:=5) ?hd (cs:=#[.int .i64 0,.int .i64 0,.int .u64 0,.string (⟨#[]⟩ : ByteArray)]) (t:=64) ?hr ?_;(case hd=>rfl);(case hg=>rfl);(case hr=>first | (go_simp;done) | (go_simp;rfl));intro gb106 hg w14 hbox hb;have n0_:=Aside0.mk (Kd.R_below (by (with_reducible repeat (first | apply Kd.R_alloc | apply Kd.R_drewN | apply Kd.R_drew));exact HO_3.out) hb);have n1_:=Aside0.mk (below_step (by repeat (first | (with_reducible first | exact HB.out | apply below_alloc | apply pw_below_drewN | apply below_drew1) | exact HB.out)) hb);have n2_:=Aside0.mk (hbox);have n3_:=Aside0.mk ((by rw [hg];exact (below_size (by repeat (first | (with_reducible first | exact HB.out | apply below_alloc | apply pw_below_drewN | apply below_drew1) | exact HB.out))) : w.heap.size ≤ gb106));have n4_:=Aside0.mk ((by rw [hg];exact (below_size (by repeat (first | (with_reducible first | exact HB.out | apply below_alloc | apply pw_below_drewN | apply below_drew1) | exact HB.out))) : w.heap.size ≤ gb106));clear HO_3;clear HB;have HO_3:=n0_;have HB:=n1_;have BK106:=n2_;have GW106:=n3_;have GE106:=n4_;clear n0_ n1_ n2_ n3_ n4_;clear hb hbox hg;have hcz15_0 : w14.cell? ⟨gb106,0,none⟩ = some (.int .i64 0):=(blk_cell BK106.out 0).trans rfl;have hcz15_1 : w14.cell? ⟨gb106,1,none⟩ = some (.int .i64 0):=(blk_cell BK106.out 1).trans rfl;have hcz15_2 : w14.cell? ⟨gb106,2,none⟩ = some (.int .u64 0):=(blk_cell BK106.out 2).trans rfl;have hcz15_3 : w14.cell? ⟨gb106,3,none⟩ = some (.string (⟨#[]⟩ : ByteArray)):=(blk_cell BK106.out 3).trans rfl;have hfz15_0:=blk_frozen BK106.out 0;have hfz15_1:=blk_frozen BK106.out 1;have hfz15_2:=blk_frozen BK106.out 2;have hfz15_3:=blk_frozen BK106.out 3) | ((with_reducible refine gate_callee (f:=72) rfl ?_);refine goesL_ (some 20) rfl rfl Tryz.func72 (by kernel_rfl) rfl #[.agg #[.int .i64 ((rd_T64 l0 x14_1).f0),.int .i64 ((rd_T64 l0 x14_1).f1),.int .u64 ((rd_T64 l0 x14_1).f2),.string ((rd_T64 l0 x14_1).f3)]] rfl (by (try simp only [List.map_toArray,List.map_cons,List.map_nil]);first | done | rfl | (simp only [List.length_drop,List.length_take];rfl)) ?_;(with_reducible refine (xShow.calls ((rd_T64 l0 x14_1).f0) ((rd_T64 l0 x14_1).f1) ((rd_T64 l0 x14_1).f2) ((rd_T64 l0 x14_1).f3) t107 _ ?side1 A12.out).mono ?_);(case side1=>first | exact HT.out | exact tab_at HT.out (by repeat (first | (with_reducible first | exact HB.out | apply below_alloc | apply pw_below_drewN | apply below_drew1 | refine below_set ?_ GE106.out) | exact HB.out)) | (repeat (first | exact HT.out | refine tab_drewN ?_ | refine tab_drew ?_)));rintro e w16 ⟨rfl,hb⟩;refine ⟨_,rfl, ?_⟩;have n0_:=Aside0.mk (Kd.R_below (by (with_reducible repeat (first | apply Kd.R_alloc | apply Kd.R_drewN | apply Kd.R_drew));exact (Kd.R_mono (Kd.R_far (p:=⟨gb106,3,none⟩) (Kd.R_far (p:=⟨gb106,2,none⟩) (Kd.R_far (p:=⟨gb106,1,none⟩) (Kd.R_far (p:=⟨gb106,0,none⟩) (Kd.R_types HO_3.out BK106.out (by decide)) (fun _ hk=>hk.2) (.int .i64 ((rd_T64 l0 x14_1).f0))) (fun _ hk=>hk.2) (.int .i64 ((rd_T64 l0 x14_1).f1))) (fun _ hk=>hk.2) (.int .u64 ((rd_T64 l0 x14_1).f2))) (fun _ hk=>hk.2) (.string ((rd_T64 l0 x14_1).f3))) (fun _ h_=>h_.1))) hb);have n1_:=Aside0.mk (blk_below (g:=gb106) (o:=.cells #[.int .i64 ((rd_T64 l0 x14_1).f0),.int .i64 ((rd_T64 l0 x14_1).f1),.int .u64 ((rd_T64 l0 x14_1).f2),.string ((rd_T64 l0 x14_1).f3)] 64 (0,0)) (by (with_reducible repeat (first | refine blk_drewN ?_ _ | refine blk_drew ?_ | refine blk_alloc ?_ _));refine blk_put (cs:=#[.int .i64 ((rd_T64 l0 x14_1).f0),.int .i64 ((rd_T64 l0 x14_1).f1),.int .u64 ((rd_T64 l0 x14_1).f2),.string (⟨#[]⟩ : ByteArray)]) ?_ 3 _ rfl;(with_reducible repeat (first | refine blk_drewN ?_ _ | refine blk_drew ?_ | refine blk_alloc ?_ _));refine blk_put (cs:=#[.int .i64 ((rd_T64 l0 x14_1).f0),.int .i64 ((rd_T64 l0 x14_1).f1),.int .u64 0,.string (⟨#[]⟩ : ByteArray)]) ?_ 2 _ rfl;(with_reducible repeat (first | refine blk_drewN ?_ _ | refine blk_drew ?_ | refine blk_alloc ?_ _));refine blk_put (cs:=#[.int .i64 ((rd_T64 l0 x14_1).f0),.int .i64 0,.int .u64 0,.string (⟨#[]⟩ : ByteArray)]) ?_ 1 _ rfl;(with_reducible repeat (first | refine blk_drewN ?_ _ | refine blk_drew ?_ | refine blk_alloc ?_ _));refine blk_put (cs:=#[.int .i64 0,.int .i64 0,.int .u64 0,.string (⟨#[]⟩ : ByteArray)]) ?_ 0 _ rfl;(with_reducible repeat (first | refine blk_drewN ?_ _ | refine blk_drew ?_ | refine blk_alloc ?_ _));exact BK106.out) hb);have n2_:=Aside0.mk (below_step (by repeat (first | (with_reducible first | exact HB.out | apply below_alloc | apply pw_below_drewN | apply below_drew1 | refine below_set ?_ GE106.out) | exact HB.out)) hb);clear HO_3;clear BK106;clear HB;have HO_3:=n0_;have BK106:=n1_;have HB:=n2_;clear n0_ n1_ n2_;(try clear hb);(try clear hb2);(try clear hk);(try clear hi)) | ((with_reducible refine gate_builtin (b:=.append) (xs:=#[.tmp 18,.tmp 21]) rfl ?_);at_builtin;refine Kd.R_append Kd.string (w0:=w) w.heap.size rfl (.tmp 18) (.tmp 21) 69 9 (.string ⟨#[]⟩) 16 rfl Tryz.underlying69 info9 rfl (by decide) (by omega) u3 x3_1 t107 [.string t107] (fun _=>True) (fun _=>False) rfl rfl ?aP (fun _ hk=>hk.elim) ?aF ?aO ?aB ?aS ?aL ?_;(case aP=>exact rfl);(case aB=>exact (by repeat (first | (with_reducible first | exact HB.out | apply below_alloc | apply pw_below_drewN | apply below_drew1 | refine below_set ?_ GE106.out) | exact HB.out)));(case aF=>exact (fun _ _=>trivial));(case aO=>exact (by (with_reducible repeat (first | apply Kd.R_alloc | apply Kd.R_drewN | apply Kd.R_drew));exact HO_3.out));(case aS=>exact (below_size (by repeat (first | (with_reducible first | exact HB.out | apply below_alloc | apply pw_below_drewN | apply below_drew1 | refine below_set ?_ GE106.out) | exact HB.out))));(case aL=>have:=LMc13.out;omega);intro v109 w17 ho hb hg hat;rw [← Ny108.out] at ho;have n0_:=Aside0.mk (blk_grown (g:=gb106) (o:=.cells #[.int .i64 ((rd_T64 l0 x14_1).f0),.int .i64 ((rd_T64 l0 x14_1).f1),.int .u64 ((rd_T64 l0 x14_1).f2),.string ((rd_T64 l0 x14_1).f3)] 64 (0,0)) (by (with_reducible repeat (first | refine blk_drewN ?_ _ | refine blk_drew ?_ | refine blk_alloc ?_ _));exact BK106.out) hg (Kd.R_ne HO_3.out BK106.out (by decide)));have n1_:=Aside0.mk (hb);have n2_:=Aside0.mk (ho);clear BK106;clear HB;clear HO_3;have BK106:=n0_;have HB:=n1_;have HO110:=n2_;clear n0_ n1_ n2_;clear ho hb hg hat))
          go_roundg k1
          case measure=>have:=HK1.out;omega
          case rel=>exact ⟨(y108),(wrap64 (x14_1 + 1)),(by first | rfl | (simp;done) | (simp [*];done)),H',⟨by have:=HK1.out;omega⟩,⟨by (with_reducible repeat (first | apply Kd.R_alloc | apply Kd.R_drewN | apply Kd.R_drew));exact HO110.out⟩,⟨by repeat (first | (with_reducible first | exact HB.out | apply below_alloc | apply pw_below_drewN | apply below_drew1 | refine below_set ?_ GE106.out) | exact HB.out)⟩⟩
         ·rw [if_neg c13] at H
          exact absurd H (by simp)
        ·rw [if_neg c11] at H
         exact absurd H (by simp)
       ·rw [if_neg c10] at H
        exact absurd H (by simp)
      ·rw [if_neg c9] at H
       have c9b0 : decide (x14_1 < (l0.length : Int)) = false:=decide_eq_false c9
       clear c9
       replace H:=Option.bind_eq_some_iff.mp H
       obtain ⟨t111,A180,H⟩:=H
       replace H : (if 1 + t111.size ≤ 9223372036854775807 then (if ((⟨#[40]⟩ : ByteArray) ++ t111).size + 1 ≤ 9223372036854775807 then (some (((⟨#[40]⟩ : ByteArray) ++ t111) ++ (⟨#[41]⟩ : ByteArray))) else (none)) else (none)) = some r:=H
       have A18:=Aside0.mk A180
       clear A180
       by_cases c19 : 1 + t111.size ≤ 9223372036854775807
       ·rw [if_pos c19] at H
        have c19b0:=eq_true c19
        have c19b1 : decide (1 + t111.size ≤ 9223372036854775807) = true:=decide_eq_true c19
        try have c19b2 : (9223372036854775807 < 1 + t111.size) = False:=eq_false (Nat.not_lt.2 c19)
        by_cases c20 : ((⟨#[40]⟩ : ByteArray) ++ t111).size + 1 ≤ 9223372036854775807
        ·rw [if_pos c20] at H
         have c20b0:=eq_true c20
         have c20b1 : decide (((⟨#[40]⟩ : ByteArray) ++ t111).size + 1 ≤ 9223372036854775807) = true:=decide_eq_true c20
         try have c20b2 : (9223372036854775807 < ((⟨#[40]⟩ : ByteArray) ++ t111).size + 1) = False:=eq_false (Nat.not_lt.2 c20)
         have c20y:=c20
         (try simp only [ByteArray.size_append,show (⟨#[40]⟩ : ByteArray).size = 1 from rfl] at c20y)
         have c20z:=eq_false (Nat.not_lt.2 c20y)
         obtain rfl:=Option.some.inj H
         obtain ⟨Ao21,co21,eo21⟩:=Kd.R_slice HO_3.out
         subst eo21
         go_wp2_with (first | ((with_reducible refine gate_callee (f:=51) rfl ?_);refine goesL_ (some 25) rfl rfl Tryz.func51 (by kernel_rfl) rfl #[.slice Ao21 x3_1.length co21,.string (⟨#[44,32]⟩ : ByteArray)] rfl (by (try simp only [List.map_toArray,List.map_cons,List.map_nil]);first | done | rfl | (simp only [List.length_drop,List.length_take];rfl)) ?_;(with_reducible refine (xJoin.calls _ _ x3_1 (⟨#[44,32]⟩ : ByteArray) t111 _ ?side1 ?side2 A18.out).mono ?_);(case side1=>repeat (first | exact (Kd.R_reads' HO_3.out).2.2 | (with_reducible refine Kd.C_alloc ?_ _) | (with_reducible refine Kd.C_drewN ?_ _) | (with_reducible refine Kd.C_drew ?_)));(case side2=>exact (Kd.R_reads' HO_3.out).2.1);rintro e w22 ⟨rfl,hb⟩;refine ⟨_,rfl, ?_⟩;have n0_:=Aside0.mk (Kd.R_below (by (with_reducible repeat (first | apply Kd.R_alloc | apply Kd.R_drewN | apply Kd.R_drew));exact HO_3.out) hb);have n1_:=Aside0.mk (below_step (by repeat (first | (with_reducible first | exact HB.out | apply below_alloc | apply pw_below_drewN | apply below_drew1) | exact HB.out)) hb);clear HO_3;clear HB;have HO_3:=n0_;have HB:=n1_;clear n0_ n1_;(try clear hb);(try clear hb2);(try clear hk);(try clear hi)))
         go_ret
         exact ⟨by first | rfl | (simp [errW_none,errW_some] <;> rfl) | (simp [*,errW_none,errW_some] <;> rfl),by repeat (first | (with_reducible first | exact HB.out | apply below_alloc | apply pw_below_drewN | apply below_drew1) | exact HB.out)⟩
        ·rw [if_neg c20] at H
         exact absurd H (by simp)
       ·rw [if_neg c19] at H
        exact absurd H (by simp)
   ·rw [if_neg c5] at H
    exact absurd H (by simp)
  ·rw [if_neg c4] at H
   exact absurd H (by simp)
 ·replace c3:=Bool.eq_false_iff.mpr c3
  subst c3
  have H1 : (some (⟨#[]⟩ : ByteArray)) = some r:=by rw [if_neg (show ¬ (false = true) by decide)] at H;exact H
  clear H
  have H:=H1
  clear H1
  obtain rfl:=Option.some.inj H
  go_enter Tryz.func34,Tryz.ntmps34
  go_wp2_with (first | ((with_reducible refine gate_callee (f:=29) rfl ?_);refine goesL_ (some 7) rfl rfl Tryz.func29 (by kernel_rfl) rfl #[.slice A0 l0.length c0] rfl (by (try simp only [List.map_toArray,List.map_cons,List.map_nil]);first | done | rfl | (simp only [List.length_drop,List.length_take];rfl)) ?_;(with_reducible refine (xRowSound.calls _ _ l0 false _ ?side1 ?side2 A2.out).mono ?_);(case side1=>repeat (first | exact HR0.out | (with_reducible refine Kd.C_alloc ?_ _) | (with_reducible refine Kd.C_drewN ?_ _) | (with_reducible refine Kd.C_drew ?_)));(case side2=>exact HC0.out);rintro e w23 ⟨rfl,hb⟩;refine ⟨_,rfl, ?_⟩;have n0_:=Aside0.mk (below_step (by repeat (first | (with_reducible first | exact HB.out | apply below_alloc | apply pw_below_drewN | apply below_drew1) | exact HB.out)) hb);clear HB;have HB:=n0_;clear n0_;(try clear hb);(try clear hb2);(try clear hk);(try clear hi)))
  go_ret
  exact ⟨by first | rfl | (simp [errW_none,errW_some] <;> rfl) | (simp [*,errW_none,errW_some] <;> rfl),by repeat (first | (with_reducible first | exact HB.out | apply below_alloc | apply pw_below_drewN | apply below_drew1) | exact HB.out)⟩
def freshetref02_Same.l0 : Nat → List (S64) → List (S64) → Int → Option (Bool)
 | 0,_,_,_=>none
 | k + 1,x0,x1,x5=>if x5 < (x0.length : Int) then (if 0 ≤ x5 then (if x5 < (x1.length : Int) then (if (!(((rd_T64 x0 x5).f0) == ((rd_T64 x1 x5).f0)) || (!(((rd_T64 x0 x5).f1) == ((rd_T64 x1 x5).f1)) || (!(((rd_T64 x0 x5).f2) == ((rd_T64 x1 x5).f2)) || (!((((rd_T64 x0 x5).f3).toList) == (((rd_T64 x1 x5).f3).toList)))))) = true then (some false) else (freshetref02_Same.l0 k x0 x1 (wrap64 (x5 + 1)))) else (none)) else (none)) else (some true)
def freshetref02_Same.f (k : Nat) (l0 : List (S64)) (l1 : List (S64)) : Option (Bool):=if (l0.length : Int) = (l1.length : Int) then (freshetref02_Same.l0 k l0 l1 0) else (some false)
theorem freshetref02_Same.mono_l : ∀ k,(∀ y0 y1 y2,LeO (freshetref02_Same.l0 k y0 y1 y2) (freshetref02_Same.l0 (k + 1) y0 y1 y2))
 | 0=>fun _ _ _ r h=>by simp [freshetref02_Same.l0] at h
 | k + 1=>by
  have ih0:=freshetref02_Same.mono_l k
  ·intro y0 y1 y2
   unfold freshetref02_Same.l0
   repeat' first
   | (with_reducible exact ih0 _ _ _)
   | (with_reducible exact LeO.refl _)
   | (with_reducible exact LeO.none _)
   | (with_reducible refine LeO.ite ?_ ?_)
   | (with_reducible refine LeO.bind ?_ (fun _=>?_))
   | exact ih0 _ _ _
   | exact LeO.none _
   | refine LeO.ite ?_ ?_
   | refine LeO.bind ?_ (fun _=>?_)
theorem freshetref02_Same.mono : ∀ a0 a1 k,LeO (freshetref02_Same.f k a0 a1) (freshetref02_Same.f (k + 1) a0 a1):=by
 intro a0 a1 k
 have ih0:=freshetref02_Same.mono_l k
 unfold freshetref02_Same.f
 repeat' first
   | (with_reducible exact ih0 _ _ _)
   | (with_reducible exact LeO.refl _)
   | (with_reducible exact LeO.none _)
   | (with_reducible refine LeO.ite ?_ ?_)
   | (with_reducible refine LeO.bind ?_ (fun _=>?_))
   | exact ih0 _ _ _
   | exact LeO.none _
   | refine LeO.ite ?_ ?_
   | refine LeO.bind ?_ (fun _=>?_)
set_option maxHeartbeats 8000000 in
set_option maxRecDepth 100000 in
theorem freshetref02_Same.calls (k : Nat) (A0 : Option Addr) (c0 : Nat) (l0 : List (S64)) (A1 : Option Addr) (c1 : Nat) (l1 : List (S64)) (r : Bool) (w : World) (hr0 : Kd.C k64 w A0 l0.length l0) (hc0 : l0.length ≤ c0) (hr1 : Kd.C k64 w A1 l1.length l1) (hc1 : l1.length ≤ c1) (h : freshetref02_Same.f k l0 l1 = some r) :
  Calls Tryz.prog 33 #[.slice A0 l0.length c0,.slice A1 l1.length c1] w fun e w'=>e = .returned (.bool r) ∧ Drawn0 w w':=by
 have hu64:=Tryz.underlying64
 have HR0:=Aside0.mk hr0
 have HC0:=Aside0.mk hc0
 clear hr0 hc0
 have HR1:=Aside0.mk hr1
 have HC1:=Aside0.mk hc1
 clear hr1 hc1
 have H : (if (l0.length : Int) = (l1.length : Int) then (freshetref02_Same.l0 k l0 l1 0) else (some false)) = some r:=h
 clear h
 by_cases c3 : (l0.length : Int) = (l1.length : Int)
 ·rw [if_pos c3] at H
  have c3b0 : ((l0.length : Int) == (l1.length : Int)) = true:=beq_iff_eq.mpr c3
  have c3b1 : ((l0.length : Int) != (l1.length : Int)) = false:=bne_eq_false_iff_eq.mpr c3
  have c3b2 : (l0.length == l1.length) = true:=by first | simpa using c3 | (simp at c3 ⊢;omega)
  clear c3
  have H':=Aside0.mk H
  clear H
  go_enter Tryz.func33,Tryz.ntmps33
  go_wp2
  repeat (go_quiet (fail);try go_wp2)
  go_loopg [5] k (fun kq v5 w'=>∃ (x5_1 : Int),v5 = .int .i64 x5_1 ∧ Aside0 (freshetref02_Same.l0 kq l0 l1 x5_1 = some r) ∧ Aside0 (kq ≤ k) ∧ Drawn0 w w')
  case atStart=>exact ⟨(0),(by first | rfl | (simp;done) | (simp [*];done)),H',⟨Nat.le_refl _⟩,by repeat (first | exact Drawn0.refl _ | apply Drawn0.step)⟩
  case round =>
   clear H'
   try clear c1
   try clear p2
   try clear c3
   try clear c3b0
   try clear c3b1
   try clear c3b2
   obtain ⟨x5_1,rfl,HA,HK1,⟨m1,rfl⟩⟩:=hrel
   cases gk with
   | zero=>exact absurd HA.out (by simp [freshetref02_Same.l0])
   | succ k1 =>
    have H:=HA.out
    clear HA
    simp only [freshetref02_Same.l0] at H
    by_cases c4 : x5_1 < (l0.length : Int)
    ·rw [if_pos c4] at H
     have c4b0 : decide (x5_1 < (l0.length : Int)) = true:=decide_eq_true c4
     clear c4
     by_cases c5 : 0 ≤ x5_1
     ·rw [if_pos c5] at H
      have c5b0 : decide (0 ≤ x5_1) = true:=decide_eq_true c5
      clear c5
      by_cases c6 : x5_1 < (l1.length : Int)
      ·rw [if_pos c6] at H
       have c6b0 : decide (x5_1 < (l1.length : Int)) = true:=decide_eq_true c6
       clear c6
       by_cases c7 : (!(((rd_T64 l0 x5_1).f0) == ((rd_T64 l1 x5_1).f0)) || (!(((rd_T64 l0 x5_1).f1) == ((rd_T64 l1 x5_1).f1)) || (!(((rd_T64 l0 x5_1).f2) == ((rd_T64 l1 x5_1).f2)) || (!((((rd_T64 l0 x5_1).f3).toList) == (((rd_T64 l1 x5_1).f3).toList)))))) = true
       ·rw [if_pos c7] at H
        have c7b0 : (!(((rd_T64 l0 x5_1).f0) == ((rd_T64 l1 x5_1).f0)) || (!(((rd_T64 l0 x5_1).f1) == ((rd_T64 l1 x5_1).f1)) || (!(((rd_T64 l0 x5_1).f2) == ((rd_T64 l1 x5_1).f2)) || (!((((rd_T64 l0 x5_1).f3).toList) == (((rd_T64 l1 x5_1).f3).toList)))))) = true:=c7
        clear c7
        obtain rfl:=Option.some.inj H
        have p118 : 0 ≤ (x5_1 : Int):=of_decide_eq_true (by first | (with_reducible assumption) | assumption)
        have q118 : x5_1 < (l0.length : Int):=of_decide_eq_true (by first | (with_reducible assumption) | assumption)
        obtain ⟨ad118,e118,hx118_0,hx118_1,hx118_2,hx118_3⟩:=at_T64 HR0.out x5_1 p118 q118
        cases e118
        replace p118:=eq_true p118
        replace q118:=eq_true q118
        have p119 : 0 ≤ (x5_1 : Int):=of_decide_eq_true (by first | (with_reducible assumption) | assumption)
        have q119 : x5_1 < (l1.length : Int):=of_decide_eq_true (by first | (with_reducible assumption) | assumption)
        obtain ⟨ad119,e119,hx119_0,hx119_1,hx119_2,hx119_3⟩:=at_T64 HR1.out x5_1 p119 q119
        cases e119
        replace p119:=eq_true p119
        replace q119:=eq_true q119
        go_wp2
        repeat (go_quiet (fail);try go_wp2)
        go_ret
        exact ⟨by first | rfl | (simp;done) | (simp [*];done),by repeat (first | exact Drawn0.refl _ | apply Drawn0.step)⟩
       ·rw [if_neg c7] at H
        have c7b0 : (!(((rd_T64 l0 x5_1).f0) == ((rd_T64 l1 x5_1).f0)) || (!(((rd_T64 l0 x5_1).f1) == ((rd_T64 l1 x5_1).f1)) || (!(((rd_T64 l0 x5_1).f2) == ((rd_T64 l1 x5_1).f2)) || (!((((rd_T64 l0 x5_1).f3).toList) == (((rd_T64 l1 x5_1).f3).toList)))))) = false:=by simpa using c7
        clear c7
        have H':=Aside0.mk H
        clear H
        have p118 : 0 ≤ (x5_1 : Int):=of_decide_eq_true (by first | (with_reducible assumption) | assumption)
        have q118 : x5_1 < (l0.length : Int):=of_decide_eq_true (by first | (with_reducible assumption) | assumption)
        obtain ⟨ad118,e118,hx118_0,hx118_1,hx118_2,hx118_3⟩:=at_T64 HR0.out x5_1 p118 q118
        cases e118
        replace p118:=eq_true p118
        replace q118:=eq_true q118
        have p119 : 0 ≤ (x5_1 : Int):=of_decide_eq_true (by first | (with_reducible assumption) | assumption)
        have q119 : x5_1 < (l1.length : Int):=of_decide_eq_true (by first | (with_reducible assumption) | assumption)
        obtain ⟨ad119,e119,hx119_0,hx119_1,hx119_2,hx119_3⟩:=at_T64 HR1.out x5_1 p119 q119
        cases e119
        replace p119:=eq_true p119
        replace q119:=eq_true q119
        go_wp2
        repeat (go_quiet (fail);try go_wp2)
        go_roundg k1
        case measure=>have:=HK1.out;omega
        case rel=>exact ⟨(wrap64 (x5_1 + 1)),(by first | rfl | (simp;done) | (simp [*];done)),H',⟨by have:=HK1.out;omega⟩,by repeat (first | exact Drawn0.refl _ | apply Drawn0.step)⟩
      ·rw [if_neg c6] at H
       exact absurd H (by simp)
     ·rw [if_neg c5] at H
      exact absurd H (by simp)
    ·rw [if_neg c4] at H
     have c4b0 : decide (x5_1 < (l0.length : Int)) = false:=decide_eq_false c4
     clear c4
     obtain rfl:=Option.some.inj H
     go_wp2
     repeat (go_quiet (fail);try go_wp2)
     go_ret
     exact ⟨by first | rfl | (simp;done) | (simp [*];done),by repeat (first | exact Drawn0.refl _ | apply Drawn0.step)⟩
 ·rw [if_neg c3] at H
  have c3b0 : ((l0.length : Int) == (l1.length : Int)) = false:=beq_eq_false_iff_ne.mpr c3
  have c3b1 : ((l0.length : Int) != (l1.length : Int)) = true:=bne_iff_ne.mpr c3
  have c3b2 : (l0.length == l1.length) = false:=by first | simpa using c3 | (simp at c3 ⊢;omega)
  obtain rfl:=Option.some.inj H
  go_enter Tryz.func33,Tryz.ntmps33
  go_wp2
  repeat (go_quiet (fail);try go_wp2)
  go_ret
  exact ⟨by first | rfl | (simp;done) | (simp [*];done),by repeat (first | exact Drawn0.refl _ | apply Drawn0.step)⟩
def freshetref02_Sound.l0 : Nat → List (S64) → Int → Option (Bool)
 | 0,_,_=>none
 | k + 1,x0,x3=>if x3 < (x0.length : Int) then (if x3 ≥ 1024 then (some false) else (if 0 ≤ x3 then ((xrSound.f ((rd_T64 x0 x3).f0) ((rd_T64 x0 x3).f1) ((rd_T64 x0 x3).f2) ((rd_T64 x0 x3).f3)).bind fun t121=>(if t121 = true then (freshetref02_Sound.l0 k x0 (wrap64 (x3 + 1))) else (some false))) else (none))) else (some true)
def freshetref02_Sound.f (k : Nat) (l0 : List (S64)) : Option (Bool):=freshetref02_Sound.l0 k l0 0
theorem freshetref02_Sound.mono_l : ∀ k,(∀ y0 y1,LeO (freshetref02_Sound.l0 k y0 y1) (freshetref02_Sound.l0 (k + 1) y0 y1))
 | 0=>fun _ _ r h=>by simp [freshetref02_Sound.l0] at h
 | k + 1=>by
  have ih0:=freshetref02_Sound.mono_l k
  ·intro y0 y1
   unfold freshetref02_Sound.l0
   repeat' first
   | (with_reducible exact ih0 _ _)
   | (with_reducible exact LeO.refl _)
   | (with_reducible exact LeO.none _)
   | (with_reducible refine LeO.ite ?_ ?_)
   | (with_reducible refine LeO.bind ?_ (fun _=>?_))
   | exact ih0 _ _
   | exact LeO.none _
   | refine LeO.ite ?_ ?_
   | refine LeO.bind ?_ (fun _=>?_)
theorem freshetref02_Sound.mono : ∀ a0 k,LeO (freshetref02_Sound.f k a0) (freshetref02_Sound.f (k + 1) a0):=by
 intro a0 k
 have ih0:=freshetref02_Sound.mono_l k
 unfold freshetref02_Sound.f
 repeat' first
   | (with_reducible exact ih0 _ _)
   | (with_reducible exact LeO.refl _)
   | (with_reducible exact LeO.none _)
   | (with_reducible refine LeO.ite ?_ ?_)
   | (with_reducible refine LeO.bind ?_ (fun _=>?_))
   | exact ih0 _ _
   | exact LeO.none _
   | refine LeO.ite ?_ ?_
   | refine LeO.bind ?_ (fun _=>?_)
set_option maxHeartbeats 8000000 in
set_option maxRecDepth 100000 in
theorem freshetref02_Sound.calls (k : Nat) (A0 : Option Addr) (c0 : Nat) (l0 : List (S64)) (r : Bool) (w : World) (hr0 : Kd.C k64 w A0 l0.length l0) (hc0 : l0.length ≤ c0) (h : freshetref02_Sound.f k l0 = some r) :
  Calls Tryz.prog 30 #[.slice A0 l0.length c0] w fun e w'=>e = .returned (.bool r) ∧ Below w.heap.size w w':=by
 have hu64:=Tryz.underlying64
 have HR0:=Aside0.mk hr0
 have HC0:=Aside0.mk hc0
 clear hr0 hc0
 have HB:=Aside0.mk (Below.refl w.heap.size w)
 have H : (freshetref02_Sound.l0 k l0 0) = some r:=h
 clear h
 have H':=Aside0.mk H
 clear H
 go_enter Tryz.func30,Tryz.ntmps30
 go_wp2
 go_loopg [3] k (fun kq v3 w'=>∃ (x3_1 : Int),v3 = .int .i64 x3_1 ∧ Aside0 (freshetref02_Sound.l0 kq l0 x3_1 = some r) ∧ Aside0 (kq ≤ k) ∧ Aside0 (Below w.heap.size w w'))
 case atStart=>exact ⟨(0),(by first | rfl | (simp;done) | (simp [*];done)),H',⟨Nat.le_refl _⟩,⟨by repeat (first | (with_reducible first | exact HB.out | apply below_alloc | apply pw_below_drewN | apply below_drew1) | exact HB.out)⟩⟩
 case round =>
  clear H'
  obtain ⟨x3_1,rfl,HA,HK1,HB⟩:=hrel
  cases gk with
  | zero=>exact absurd HA.out (by simp [freshetref02_Sound.l0])
  | succ k1 =>
   have H:=HA.out
   clear HA
   simp only [freshetref02_Sound.l0] at H
   by_cases c2 : x3_1 < (l0.length : Int)
   ·rw [if_pos c2] at H
    have c2b0 : decide (x3_1 < (l0.length : Int)) = true:=decide_eq_true c2
    clear c2
    by_cases c3 : x3_1 ≥ 1024
    ·rw [if_pos c3] at H
     have c3b0 : decide (1024 ≤ x3_1) = true:=decide_eq_true c3
     clear c3
     obtain rfl:=Option.some.inj H
     go_wp2
     go_ret
     exact ⟨by first | rfl | (simp [errW_none,errW_some] <;> rfl) | (simp [*,errW_none,errW_some] <;> rfl),by repeat (first | (with_reducible first | exact HB.out | apply below_alloc | apply pw_below_drewN | apply below_drew1) | exact HB.out)⟩
    ·rw [if_neg c3] at H
     have c3b0 : decide (1024 ≤ x3_1) = false:=decide_eq_false c3
     clear c3
     by_cases c4 : 0 ≤ x3_1
     ·rw [if_pos c4] at H
      have c4b0 : decide (0 ≤ x3_1) = true:=decide_eq_true c4
      clear c4
      replace H:=Option.bind_eq_some_iff.mp H
      obtain ⟨t121,A50,H⟩:=H
      replace H : (if t121 = true then (freshetref02_Sound.l0 k1 l0 (wrap64 (x3_1 + 1))) else (some false)) = some r:=H
      have A5:=Aside0.mk A50
      clear A50
      by_cases c6 : t121 = true
      ·subst c6
       have H1 : (freshetref02_Sound.l0 k1 l0 (wrap64 (x3_1 + 1))) = some r:=by rw [if_pos rfl] at H;exact H
       clear H
       have H:=H1
       clear H1
       have H':=Aside0.mk H
       clear H
       have p120 : 0 ≤ (x3_1 : Int):=of_decide_eq_true (by first | (with_reducible assumption) | assumption)
       have q120 : x3_1 < (l0.length : Int):=of_decide_eq_true (by first | (with_reducible assumption) | assumption)
       obtain ⟨ad120,e120,hx120_0,hx120_1,hx120_2,hx120_3⟩:=at_T64 HR0.out x3_1 p120 q120
       cases e120
       replace hx120_0:=(HB.out.cell (World.block_lt_of_cell? w _ hx120_0)).trans hx120_0
       replace hx120_1:=(HB.out.cell (World.block_lt_of_cell? w _ hx120_1)).trans hx120_1
       replace hx120_2:=(HB.out.cell (World.block_lt_of_cell? w _ hx120_2)).trans hx120_2
       replace hx120_3:=(HB.out.cell (World.block_lt_of_cell? w _ hx120_3)).trans hx120_3
       replace p120:=eq_true p120
       replace q120:=eq_true q120
       go_wp2_with (first | (go_at_call 68;(with_reducible refine (xrSound.calls ((rd_T64 l0 x3_1).f0) ((rd_T64 l0 x3_1).f1) ((rd_T64 l0 x3_1).f2) ((rd_T64 l0 x3_1).f3) true _ A5.out).mono ?_);rintro e w7 ⟨rfl,hb⟩;have n0_:=Aside0.mk (below_step (by repeat (first | (with_reducible first | exact HB.out | apply below_alloc | apply pw_below_drewN | apply below_drew1) | exact HB.out)) hb);clear HB;have HB:=n0_;clear n0_;(try clear hb);(try clear hb2);(try clear hk);(try clear hi)))
       go_roundg k1
       case measure=>have:=HK1.out;omega
       case rel=>exact ⟨(wrap64 (x3_1 + 1)),(by first | rfl | (simp;done) | (simp [*];done)),H',⟨by have:=HK1.out;omega⟩,⟨by repeat (first | (with_reducible first | exact HB.out | apply below_alloc | apply pw_below_drewN | apply below_drew1) | exact HB.out)⟩⟩
      ·replace c6:=Bool.eq_false_iff.mpr c6
       subst c6
       have H1 : (some false) = some r:=by rw [if_neg (show ¬ (false = true) by decide)] at H;exact H
       clear H
       have H:=H1
       clear H1
       obtain rfl:=Option.some.inj H
       have p120 : 0 ≤ (x3_1 : Int):=of_decide_eq_true (by first | (with_reducible assumption) | assumption)
       have q120 : x3_1 < (l0.length : Int):=of_decide_eq_true (by first | (with_reducible assumption) | assumption)
       obtain ⟨ad120,e120,hx120_0,hx120_1,hx120_2,hx120_3⟩:=at_T64 HR0.out x3_1 p120 q120
       cases e120
       replace hx120_0:=(HB.out.cell (World.block_lt_of_cell? w _ hx120_0)).trans hx120_0
       replace hx120_1:=(HB.out.cell (World.block_lt_of_cell? w _ hx120_1)).trans hx120_1
       replace hx120_2:=(HB.out.cell (World.block_lt_of_cell? w _ hx120_2)).trans hx120_2
       replace hx120_3:=(HB.out.cell (World.block_lt_of_cell? w _ hx120_3)).trans hx120_3
       replace p120:=eq_true p120
       replace q120:=eq_true q120
       go_wp2_with (first | (go_at_call 68;(with_reducible refine (xrSound.calls ((rd_T64 l0 x3_1).f0) ((rd_T64 l0 x3_1).f1) ((rd_T64 l0 x3_1).f2) ((rd_T64 l0 x3_1).f3) false _ A5.out).mono ?_);rintro e w8 ⟨rfl,hb⟩;have n0_:=Aside0.mk (below_step (by repeat (first | (with_reducible first | exact HB.out | apply below_alloc | apply pw_below_drewN | apply below_drew1) | exact HB.out)) hb);clear HB;have HB:=n0_;clear n0_;(try clear hb);(try clear hb2);(try clear hk);(try clear hi)))
       go_ret
       exact ⟨by first | rfl | (simp [errW_none,errW_some] <;> rfl) | (simp [*,errW_none,errW_some] <;> rfl),by repeat (first | (with_reducible first | exact HB.out | apply below_alloc | apply pw_below_drewN | apply below_drew1) | exact HB.out)⟩
     ·rw [if_neg c4] at H
      exact absurd H (by simp)
   ·rw [if_neg c2] at H
    have c2b0 : decide (x3_1 < (l0.length : Int)) = false:=decide_eq_false c2
    clear c2
    obtain rfl:=Option.some.inj H
    go_wp2
    go_ret
    exact ⟨by first | rfl | (simp [errW_none,errW_some] <;> rfl) | (simp [*,errW_none,errW_some] <;> rfl),by repeat (first | (with_reducible first | exact HB.out | apply below_alloc | apply pw_below_drewN | apply below_drew1) | exact HB.out)⟩
end Go.Proofs.YthpkjkcfhipjhaaGreatDoor.PRW
end
section
namespace Go.Proofs.YthpkjkcfhipjhaaGreatDoor.PRW
open Go.RowKit Go.Proofs.YthpkjkcfhipjhaaGreatDoorW.PrintWords Go.Proofs.YthpkjkcfhipjhaaGreatDoorW.PrintLast
set_option linter.unusedVariables false
set_option linter.unusedSimpArgs false
mutual
def freshetref02_Compare.j0 : Nat → List (S64) → List (S64) → Bool → Option (Int)
 | 0,_,_,_=>none
 | k + 1,x0,x1,x14=>if x14 = true then (some 0) else (freshetref02_Compare.l0 k x0 x1 0)
def freshetref02_Compare.l0 : Nat → List (S64) → List (S64) → Int → Option (Int)
 | 0,_,_,_=>none
 | k + 1,x0,x1,x5=>if x5 < (x0.length : Int) then (freshetref02_Compare.j2 k x0 x1 x5 (decide (x5 < (x1.length : Int)))) else (freshetref02_Compare.j2 k x0 x1 x5 false)
def freshetref02_Compare.j2 : Nat → List (S64) → List (S64) → Int → Bool → Option (Int)
 | 0,_,_,_,_=>none
 | k + 1,x0,x1,x5,x24=>if x24 = true then (if 0 ≤ x5 then (if x5 < (x0.length : Int) then (if x5 < (x1.length : Int) then ((xrCompare.f ((rd_T64 x0 x5).f0) ((rd_T64 x0 x5).f1) ((rd_T64 x0 x5).f2) ((rd_T64 x0 x5).f3) ((rd_T64 x1 x5).f0) ((rd_T64 x1 x5).f1) ((rd_T64 x1 x5).f2) ((rd_T64 x1 x5).f3)).bind fun t126=>(if t126 = 0 then (freshetref02_Compare.l0 k x0 x1 (wrap64 (x5 + 1))) else (some t126))) else (none)) else (none)) else (none)) else (if (x0.length : Int) < (x1.length : Int) then (some (-1)) else (if (x0.length : Int) > (x1.length : Int) then (some 1) else (some 0)))
end
def freshetref02_Compare.f (k : Nat) (l0 : List (S64)) (l1 : List (S64)) : Option (Int):=(freshetref02_Sound.f k l0).bind fun t122=>(if t122 = true then ((freshetref02_Sound.f k l1).bind fun t123=>(freshetref02_Compare.j0 k l0 l1 (!t123))) else (freshetref02_Compare.j0 k l0 l1 true))
theorem freshetref02_Compare.mono_l : ∀ k,(∀ y0 y1 y2,LeO (freshetref02_Compare.j0 k y0 y1 y2) (freshetref02_Compare.j0 (k + 1) y0 y1 y2)) ∧ (∀ y0 y1 y2,LeO (freshetref02_Compare.l0 k y0 y1 y2) (freshetref02_Compare.l0 (k + 1) y0 y1 y2)) ∧ (∀ y0 y1 y2 y3,LeO (freshetref02_Compare.j2 k y0 y1 y2 y3) (freshetref02_Compare.j2 (k + 1) y0 y1 y2 y3))
 | 0=>⟨fun _ _ _ r h=>by simp [freshetref02_Compare.j0] at h,fun _ _ _ r h=>by simp [freshetref02_Compare.l0] at h,fun _ _ _ _ r h=>by simp [freshetref02_Compare.j2] at h⟩
 | k + 1=>by
  obtain ⟨ih0,ih1,ih2⟩:=freshetref02_Compare.mono_l k
  refine ⟨?_, ?_, ?_⟩
  ·intro y0 y1 y2
   unfold freshetref02_Compare.j0
   repeat' first
   | (with_reducible exact ih0 _ _ _)
   | (with_reducible exact ih1 _ _ _)
   | (with_reducible exact ih2 _ _ _ _)
   | (with_reducible exact freshetref02_Sound.mono _ _)
   | (with_reducible exact LeO.refl _)
   | (with_reducible exact LeO.none _)
   | (with_reducible refine LeO.ite ?_ ?_)
   | (with_reducible refine LeO.bind ?_ (fun _=>?_))
   | exact ih0 _ _ _
   | exact ih1 _ _ _
   | exact ih2 _ _ _ _
   | exact freshetref02_Sound.mono _ _
   | exact LeO.none _
   | refine LeO.ite ?_ ?_
   | refine LeO.bind ?_ (fun _=>?_)
  ·intro y0 y1 y2
   unfold freshetref02_Compare.l0
   repeat' first
   | (with_reducible exact ih0 _ _ _)
   | (with_reducible exact ih1 _ _ _)
   | (with_reducible exact ih2 _ _ _ _)
   | (with_reducible exact freshetref02_Sound.mono _ _)
   | (with_reducible exact LeO.refl _)
   | (with_reducible exact LeO.none _)
   | (with_reducible refine LeO.ite ?_ ?_)
   | (with_reducible refine LeO.bind ?_ (fun _=>?_))
   | exact ih0 _ _ _
   | exact ih1 _ _ _
   | exact ih2 _ _ _ _
   | exact freshetref02_Sound.mono _ _
   | exact LeO.none _
   | refine LeO.ite ?_ ?_
   | refine LeO.bind ?_ (fun _=>?_)
  ·intro y0 y1 y2 y3
   unfold freshetref02_Compare.j2
   repeat' first
   | (with_reducible exact ih0 _ _ _)
   | (with_reducible exact ih1 _ _ _)
   | (with_reducible exact ih2 _ _ _ _)
   | (with_reducible exact freshetref02_Sound.mono _ _)
   | (with_reducible exact LeO.refl _)
   | (with_reducible exact LeO.none _)
   | (with_reducible refine LeO.ite ?_ ?_)
   | (with_reducible refine LeO.bind ?_ (fun _=>?_))
   | exact ih0 _ _ _
   | exact ih1 _ _ _
   | exact ih2 _ _ _ _
   | exact freshetref02_Sound.mono _ _
   | exact LeO.none _
   | refine LeO.ite ?_ ?_
   | refine LeO.bind ?_ (fun _=>?_)
theorem freshetref02_Compare.mono : ∀ a0 a1 k,LeO (freshetref02_Compare.f k a0 a1) (freshetref02_Compare.f (k + 1) a0 a1):=by
 intro a0 a1 k
 obtain ⟨ih0,ih1,ih2⟩:=freshetref02_Compare.mono_l k
 unfold freshetref02_Compare.f
 repeat' first
   | (with_reducible exact ih0 _ _ _)
   | (with_reducible exact ih1 _ _ _)
   | (with_reducible exact ih2 _ _ _ _)
   | (with_reducible exact freshetref02_Sound.mono _ _)
   | (with_reducible exact LeO.refl _)
   | (with_reducible exact LeO.none _)
   | (with_reducible refine LeO.ite ?_ ?_)
   | (with_reducible refine LeO.bind ?_ (fun _=>?_))
   | exact ih0 _ _ _
   | exact ih1 _ _ _
   | exact ih2 _ _ _ _
   | exact freshetref02_Sound.mono _ _
   | exact LeO.none _
   | refine LeO.ite ?_ ?_
   | refine LeO.bind ?_ (fun _=>?_)
def freshetref02_Compare.T6 : Bool × List (List Nat × List Nat):=(true,[([],[]),([],[]),([0,1],[0,1]),([2],[2]),([],[]),([],[]),([4,5],[4,5]),([6],[6]),([3,7],[3,7]),([8,8,0,1,2,3,4,5,6,7,8],[8])])
def freshetref02_Compare.B6 : List Nat:=[0,0,3,7,0,0,48,112,255,511]
theorem freshetref02_Compare.tab6 : rtab .any (opsOf Tryz.f32 6) = freshetref02_Compare.T6:=by kernel_rfl
theorem freshetref02_Compare.bits6 : waitsOk freshetref02_Compare.T6.2 freshetref02_Compare.B6 = true:=by kernel_rfl
set_option maxHeartbeats 8000000 in
set_option maxRecDepth 100000 in
theorem freshetref02_Compare.calls (k : Nat) (A0 : Option Addr) (c0 : Nat) (l0 : List (S64)) (A1 : Option Addr) (c1 : Nat) (l1 : List (S64)) (r : Int) (w : World) (hr0 : Kd.C k64 w A0 l0.length l0) (hc0 : l0.length ≤ c0) (hr1 : Kd.C k64 w A1 l1.length l1) (hc1 : l1.length ≤ c1) (h : freshetref02_Compare.f k l0 l1 = some r) :
  Calls Tryz.prog 32 #[.slice A0 l0.length c0,.slice A1 l1.length c1] w fun e w'=>e = .returned (.int .i64 r) ∧ Below w.heap.size w w':=by
 have hu64:=Tryz.underlying64
 have HR0:=Aside0.mk hr0
 have HC0:=Aside0.mk hc0
 clear hr0 hc0
 have HR1:=Aside0.mk hr1
 have HC1:=Aside0.mk hc1
 clear hr1 hc1
 have HB:=Aside0.mk (Below.refl w.heap.size w)
 have H : ((freshetref02_Sound.f k l0).bind fun t122=>(if t122 = true then ((freshetref02_Sound.f k l1).bind fun t123=>(freshetref02_Compare.j0 k l0 l1 (!t123))) else (freshetref02_Compare.j0 k l0 l1 true))) = some r:=h
 clear h
 have HC3:=Aside0.mk H
 clear H
 go_enter Tryz.func32,Tryz.ntmps32
 go_upto_region 1 with (fail)
 go_cut [14] (fun v14 wc=>∃ (kq : Nat) (x14_2 : Bool),v14 = .bool x14_2 ∧ Aside0 (freshetref02_Compare.j0 kq l0 l1 x14_2 = some r) ∧ Aside0 (kq ≤ k) ∧ Aside0 (Below w.heap.size w wc))
 case first =>
  have H:=HC3.out
  clear HC3
  replace H:=Option.bind_eq_some_iff.mp H
  obtain ⟨t122,A40,H⟩:=H
  replace H : (if t122 = true then ((freshetref02_Sound.f k l1).bind fun t123=>(freshetref02_Compare.j0 k l0 l1 (!t123))) else (freshetref02_Compare.j0 k l0 l1 true)) = some r:=H
  have A4:=Aside0.mk A40
  clear A40
  by_cases c5 : t122 = true
  ·subst c5
   have H1 : ((freshetref02_Sound.f k l1).bind fun t123=>(freshetref02_Compare.j0 k l0 l1 (!t123))) = some r:=by rw [if_pos rfl] at H;exact H
   clear H
   have H:=H1
   clear H1
   replace H:=Option.bind_eq_some_iff.mp H
   obtain ⟨t123,A60,H⟩:=H
   replace H : (freshetref02_Compare.j0 k l0 l1 (!t123)) = some r:=H
   have A6:=Aside0.mk A60
   clear A60
   have H':=Aside0.mk H
   clear H
   go_wp2_with (first | ((with_reducible refine gate_callee (f:=30) rfl ?_);refine goesL_ (some 8) rfl rfl Tryz.func30 (by kernel_rfl) rfl #[.slice A0 l0.length c0] rfl (by (try simp only [List.map_toArray,List.map_cons,List.map_nil]);first | done | rfl | (simp only [List.length_drop,List.length_take];rfl)) ?_;(with_reducible refine (freshetref02_Sound.calls k _ _ l0 true _ ?side1 ?side2 A4.out).mono ?_);(case side1=>repeat (first | exact (Kd.C_below HR0.out HB.out) | (with_reducible refine Kd.C_alloc ?_ _) | (with_reducible refine Kd.C_drewN ?_ _) | (with_reducible refine Kd.C_drew ?_)));(case side2=>exact HC0.out);rintro e w7 ⟨rfl,hb⟩;refine ⟨_,rfl, ?_⟩;have n0_:=Aside0.mk (below_step (by repeat (first | (with_reducible first | exact HB.out | apply below_alloc | apply pw_below_drewN | apply below_drew1) | exact HB.out)) hb);clear HB;have HB:=n0_;clear n0_;(try clear hb);(try clear hb2);(try clear hk);(try clear hi)) | (go_at_call 30;(with_reducible refine (freshetref02_Sound.calls k _ _ l1 t123 _ ?side1 ?side2 A6.out).mono ?_);(case side1=>repeat (first | exact (Kd.C_below HR1.out HB.out) | (with_reducible refine Kd.C_alloc ?_ _) | (with_reducible refine Kd.C_drewN ?_ _) | (with_reducible refine Kd.C_drew ?_)));(case side2=>exact HC1.out);rintro e w8 ⟨rfl,hb⟩;have n0_:=Aside0.mk (below_step (by repeat (first | (with_reducible first | exact HB.out | apply below_alloc | apply pw_below_drewN | apply below_drew1) | exact HB.out)) hb);clear HB;have HB:=n0_;clear n0_;(try clear hb);(try clear hb2);(try clear hk);(try clear hi)))
   go_meet
   case rel=>exact ⟨_,(!t123),(by first | rfl | (simp;done) | (simp [*];done)),H',⟨by first | omega | exact Nat.le_refl _⟩,⟨by repeat (first | (with_reducible first | exact HB.out | apply below_alloc | apply pw_below_drewN | apply below_drew1) | exact HB.out)⟩⟩
  ·replace c5:=Bool.eq_false_iff.mpr c5
   subst c5
   have H1 : (freshetref02_Compare.j0 k l0 l1 true) = some r:=by rw [if_neg (show ¬ (false = true) by decide)] at H;exact H
   clear H
   have H:=H1
   clear H1
   have H':=Aside0.mk H
   clear H
   go_wp2_with (first | ((with_reducible refine gate_callee (f:=30) rfl ?_);refine goesL_ (some 8) rfl rfl Tryz.func30 (by kernel_rfl) rfl #[.slice A0 l0.length c0] rfl (by (try simp only [List.map_toArray,List.map_cons,List.map_nil]);first | done | rfl | (simp only [List.length_drop,List.length_take];rfl)) ?_;(with_reducible refine (freshetref02_Sound.calls k _ _ l0 false _ ?side1 ?side2 A4.out).mono ?_);(case side1=>repeat (first | exact (Kd.C_below HR0.out HB.out) | (with_reducible refine Kd.C_alloc ?_ _) | (with_reducible refine Kd.C_drewN ?_ _) | (with_reducible refine Kd.C_drew ?_)));(case side2=>exact HC0.out);rintro e w9 ⟨rfl,hb⟩;refine ⟨_,rfl, ?_⟩;have n0_:=Aside0.mk (below_step (by repeat (first | (with_reducible first | exact HB.out | apply below_alloc | apply pw_below_drewN | apply below_drew1) | exact HB.out)) hb);clear HB;have HB:=n0_;clear n0_;(try clear hb);(try clear hb2);(try clear hk);(try clear hi)))
   go_meet
   case rel=>exact ⟨_,(true),(by first | rfl | (simp;done) | (simp [*];done)),H',⟨by first | omega | exact Nat.le_refl _⟩,⟨by repeat (first | (with_reducible first | exact HB.out | apply below_alloc | apply pw_below_drewN | apply below_drew1) | exact HB.out)⟩⟩
 case rest =>
  clear HC3
  try clear c1
  try clear p2
  try clear c3
  try clear c5
  obtain ⟨kq,x14_2,rfl,HA,HJ2,HB⟩:=hcut
  cases kq with
  | zero=>exact absurd HA.out (by simp [freshetref02_Compare.j0])
  | succ kj2 =>
   have H:=HA.out
   clear HA
   simp only [freshetref02_Compare.j0] at H
   by_cases c10 : x14_2 = true
   ·subst c10
    have H1 : (some 0) = some r:=by rw [if_pos rfl] at H;exact H
    clear H
    have H:=H1
    clear H1
    obtain rfl:=Option.some.inj H
    go_wp2
    go_ret
    exact ⟨by first | rfl | (simp [errW_none,errW_some] <;> rfl) | (simp [*,errW_none,errW_some] <;> rfl),by repeat (first | (with_reducible first | exact HB.out | apply below_alloc | apply pw_below_drewN | apply below_drew1) | exact HB.out)⟩
   ·replace c10:=Bool.eq_false_iff.mpr c10
    subst c10
    have H1 : (freshetref02_Compare.l0 kj2 l0 l1 0) = some r:=by rw [if_neg (show ¬ (false = true) by decide)] at H;exact H
    clear H
    have H:=H1
    clear H1
    have H':=Aside0.mk H
    clear H
    go_wp2
    go_loopg [5] kj2 (fun kq v5 w'=>∃ (x5_2 : Int),v5 = .int .i64 x5_2 ∧ Aside0 (freshetref02_Compare.l0 kq l0 l1 x5_2 = some r) ∧ Aside0 (kq ≤ kj2) ∧ Aside0 (Below w.heap.size w w'))
    case atStart=>exact ⟨(0),(by first | rfl | (simp;done) | (simp [*];done)),H',⟨Nat.le_refl _⟩,⟨by repeat (first | (with_reducible first | exact HB.out | apply below_alloc | apply pw_below_drewN | apply below_drew1) | exact HB.out)⟩⟩
    case round =>
     clear H'
     try clear c1
     try clear p2
     try clear c3
     try clear c5
     try clear c10
     try clear p2
     obtain ⟨x5_2,rfl,HA,HK2,HB⟩:=hrel
     cases gk with
     | zero=>exact absurd HA.out (by simp [freshetref02_Compare.l0])
     | succ k2 =>
      have H:=HA.out
      clear HA
      simp only [freshetref02_Compare.l0] at H
      have HC11:=Aside0.mk H
      clear H
      go_upto_region 4 with (fail)
      go_cut [24] (fun v24 wc=>∃ (kq : Nat) (x24_10 : Bool),v24 = .bool x24_10 ∧ Aside0 (freshetref02_Compare.j2 kq l0 l1 x5_2 x24_10 = some r) ∧ Aside0 (kq ≤ k2) ∧ Aside0 (Below w.heap.size w wc))
      case first =>
       have H:=HC11.out
       clear HC11
       by_cases c12 : x5_2 < (l0.length : Int)
       ·rw [if_pos c12] at H
        have c12b0 : decide (x5_2 < (l0.length : Int)) = true:=decide_eq_true c12
        clear c12
        (first | rw [c12b0] | (simp only [i64_w,i32_w];rw [c12b0]) | skip)
        have H':=Aside0.mk H
        clear H
        go_wp2
        go_meet
        case rel=>exact ⟨_,(decide (x5_2 < (l1.length : Int))),(by first | rfl | (simp;done) | (simp [*];done)),H',⟨by have:=HJ2.out;have:=HK2.out;first | omega | exact Nat.le_refl _⟩,⟨by repeat (first | (with_reducible first | exact HB.out | apply below_alloc | apply pw_below_drewN | apply below_drew1) | exact HB.out)⟩⟩
       ·rw [if_neg c12] at H
        have c12b0 : decide (x5_2 < (l0.length : Int)) = false:=decide_eq_false c12
        clear c12
        (first | rw [c12b0] | (simp only [i64_w,i32_w];rw [c12b0]) | skip)
        have H':=Aside0.mk H
        clear H
        go_wp2
        go_meet
        case rel=>exact ⟨_,(false),(by first | rfl | (simp;done) | (simp [*];done)),H',⟨by have:=HJ2.out;have:=HK2.out;first | omega | exact Nat.le_refl _⟩,⟨by repeat (first | (with_reducible first | exact HB.out | apply below_alloc | apply pw_below_drewN | apply below_drew1) | exact HB.out)⟩⟩
      case rest =>
       clear HC11
       try clear c1
       try clear p2
       try clear c3
       try clear c5
       try clear c10
       try clear c12
       try clear c12b0
       try clear p2
       obtain ⟨kq,x24_10,rfl,HA,HJ10,HB⟩:=hcut
       cases kq with
       | zero=>exact absurd HA.out (by simp [freshetref02_Compare.j2])
       | succ kj10 =>
        have H:=HA.out
        clear HA
        simp only [freshetref02_Compare.j2] at H
        by_cases c13 : x24_10 = true
        ·subst c13
         have H1 : (if 0 ≤ x5_2 then (if x5_2 < (l0.length : Int) then (if x5_2 < (l1.length : Int) then ((xrCompare.f ((rd_T64 l0 x5_2).f0) ((rd_T64 l0 x5_2).f1) ((rd_T64 l0 x5_2).f2) ((rd_T64 l0 x5_2).f3) ((rd_T64 l1 x5_2).f0) ((rd_T64 l1 x5_2).f1) ((rd_T64 l1 x5_2).f2) ((rd_T64 l1 x5_2).f3)).bind fun t126=>(if t126 = 0 then (freshetref02_Compare.l0 kj10 l0 l1 (wrap64 (x5_2 + 1))) else (some t126))) else (none)) else (none)) else (none)) = some r:=by rw [if_pos rfl] at H;exact H
         clear H
         have H:=H1
         clear H1
         by_cases c14 : 0 ≤ x5_2
         ·rw [if_pos c14] at H
          have c14b0 : decide (0 ≤ x5_2) = true:=decide_eq_true c14
          clear c14
          by_cases c15 : x5_2 < (l0.length : Int)
          ·rw [if_pos c15] at H
           have c15b0 : decide (x5_2 < (l0.length : Int)) = true:=decide_eq_true c15
           clear c15
           by_cases c16 : x5_2 < (l1.length : Int)
           ·rw [if_pos c16] at H
            have c16b0 : decide (x5_2 < (l1.length : Int)) = true:=decide_eq_true c16
            clear c16
            replace H:=Option.bind_eq_some_iff.mp H
            obtain ⟨t126,A170,H⟩:=H
            replace H : (if t126 = 0 then (freshetref02_Compare.l0 kj10 l0 l1 (wrap64 (x5_2 + 1))) else (some t126)) = some r:=H
            have A17:=Aside0.mk A170
            clear A170
            by_cases c18 : t126 = 0
            ·rw [if_pos c18] at H
             have c18b0 : (t126 == 0) = true:=beq_iff_eq.mpr c18
             have c18b1 : (t126 != 0) = false:=bne_eq_false_iff_eq.mpr c18
             clear c18
             have H':=Aside0.mk H
             clear H
             try go_wp2
             have n0_:=Aside0.mk (below_drew1 HB.out)
             clear HB
             have HB:=n0_
             clear n0_
             have p124 : 0 ≤ (x5_2 : Int):=of_decide_eq_true (by first | (with_reducible assumption) | assumption)
             have q124 : x5_2 < (l0.length : Int):=of_decide_eq_true (by first | (with_reducible assumption) | assumption)
             obtain ⟨ad124,e124,hx124_0,hx124_1,hx124_2,hx124_3⟩:=at_T64 HR0.out x5_2 p124 q124
             have hw124_3:=hx124_3
             have hw124_2:=hx124_2
             have hw124_1:=hx124_1
             have hw124_0:=hx124_0
             cases e124
             replace hx124_0:=(HB.out.cell (World.block_lt_of_cell? w _ hx124_0)).trans hx124_0
             replace hx124_1:=(HB.out.cell (World.block_lt_of_cell? w _ hx124_1)).trans hx124_1
             replace hx124_2:=(HB.out.cell (World.block_lt_of_cell? w _ hx124_2)).trans hx124_2
             replace hx124_3:=(HB.out.cell (World.block_lt_of_cell? w _ hx124_3)).trans hx124_3
             replace p124:=eq_true p124
             replace q124:=eq_true q124
             have p125 : 0 ≤ (x5_2 : Int):=of_decide_eq_true (by first | (with_reducible assumption) | assumption)
             have q125 : x5_2 < (l1.length : Int):=of_decide_eq_true (by first | (with_reducible assumption) | assumption)
             obtain ⟨ad125,e125,hx125_0,hx125_1,hx125_2,hx125_3⟩:=at_T64 HR1.out x5_2 p125 q125
             have hw125_3:=hx125_3
             have hw125_2:=hx125_2
             have hw125_1:=hx125_1
             have hw125_0:=hx125_0
             cases e125
             replace hx125_0:=(HB.out.cell (World.block_lt_of_cell? w _ hx125_0)).trans hx125_0
             replace hx125_1:=(HB.out.cell (World.block_lt_of_cell? w _ hx125_1)).trans hx125_1
             replace hx125_2:=(HB.out.cell (World.block_lt_of_cell? w _ hx125_2)).trans hx125_2
             replace hx125_3:=(HB.out.cell (World.block_lt_of_cell? w _ hx125_3)).trans hx125_3
             replace p125:=eq_true p125
             replace q125:=eq_true q125
             refine start_ (n:=10) (S:=fun w'=>w'.cell? (ad124.add ((x5_2).toNat * 4)) = some (.int .i64 ((rd_T64 l0 x5_2).f0)) ∧ w'.cell? ⟨(ad124.add ((x5_2).toNat * 4)).block,(ad124.add ((x5_2).toNat * 4)).off + 1,none⟩ = some (.int .i64 ((rd_T64 l0 x5_2).f1)) ∧ w'.cell? ⟨(ad124.add ((x5_2).toNat * 4)).block,(ad124.add ((x5_2).toNat * 4)).off + 2,none⟩ = some (.int .u64 ((rd_T64 l0 x5_2).f2)) ∧ w'.cell? ⟨(ad124.add ((x5_2).toNat * 4)).block,(ad124.add ((x5_2).toNat * 4)).off + 3,none⟩ = some (.string ((rd_T64 l0 x5_2).f3)) ∧ w'.cell? (ad125.add ((x5_2).toNat * 4)) = some (.int .i64 ((rd_T64 l1 x5_2).f0)) ∧ w'.cell? ⟨(ad125.add ((x5_2).toNat * 4)).block,(ad125.add ((x5_2).toNat * 4)).off + 1,none⟩ = some (.int .i64 ((rd_T64 l1 x5_2).f1)) ∧ w'.cell? ⟨(ad125.add ((x5_2).toNat * 4)).block,(ad125.add ((x5_2).toNat * 4)).off + 2,none⟩ = some (.int .u64 ((rd_T64 l1 x5_2).f2)) ∧ w'.cell? ⟨(ad125.add ((x5_2).toNat * 4)).block,(ad125.add ((x5_2).toNat * 4)).off + 3,none⟩ = some (.string ((rd_T64 l1 x5_2).f3))) (ds:=[]) #[false,false,false,false,false,false,false,false,false,false] (by kernel_rfl) rfl rfl ⟨((HB.out.cell (World.block_lt_of_cell? w _ hw124_0)).trans hw124_0),((HB.out.cell (World.block_lt_of_cell? w _ hw124_1)).trans hw124_1),((HB.out.cell (World.block_lt_of_cell? w _ hw124_2)).trans hw124_2),((HB.out.cell (World.block_lt_of_cell? w _ hw124_3)).trans hw124_3),((HB.out.cell (World.block_lt_of_cell? w _ hw125_0)).trans hw125_0),((HB.out.cell (World.block_lt_of_cell? w _ hw125_1)).trans hw125_1),((HB.out.cell (World.block_lt_of_cell? w _ hw125_2)).trans hw125_2),((HB.out.cell (World.block_lt_of_cell? w _ hw125_3)).trans hw125_3)⟩ (fun hHeld=>?_);refine with_tabW freshetref02_Compare.tab6 freshetref02_Compare.bits6 (fun HT_ HW_=>?_)
             generalize wc.drew = w19 at HB hx124_0 hx124_1 hx124_2 hx124_3 hx125_0 hx125_1 hx125_2 hx125_3 hHeld ⊢
             refine pure_ (i:=0) (N:=some 27) (v:=?_) (a':=?_) #[true,false,false,false,false,false,false,false,false,false] rfl rfl (any_of HT_.out (by kernel_rfl)) (fun _ _ _ h=>h) (Or.inl ⟨by rfl, ?_⟩) ?_ ?_
             rotate_left
             ·intro w'
              go_simp
              with_reducible rfl
             rotate_left
             ·simp only [Act.put,List.setIfInBounds_toArray,List.set_cons_zero,List.set_cons_succ,i64_w,i32_w]
              rfl
             refine pure_ (i:=1) (N:=some 28) (v:=?_) (a':=?_) #[true,true,false,false,false,false,false,false,false,false] rfl rfl (any_of HT_.out (by kernel_rfl)) (fun _ _ _ h=>h) (Or.inl ⟨by rfl, ?_⟩) ?_ ?_
             rotate_left
             ·intro w'
              go_simp
              with_reducible rfl
             rotate_left
             ·simp only [Act.put,List.setIfInBounds_toArray,List.set_cons_zero,List.set_cons_succ,i64_w,i32_w]
              rfl
             refine pure_ (i:=2) (N:=some 29) (v:=?_) (a':=?_) #[true,true,true,false,false,false,false,false,false,false] rfl rfl (any_of HT_.out (by kernel_rfl)) (fun _ _ _ h=>h) (Or.inl ⟨by rfl, ?_⟩) ?_ ?_
             rotate_left
             ·intro w'
              go_simp
              with_reducible rfl
             rotate_left
             ·simp only [Act.put,List.setIfInBounds_toArray,List.set_cons_zero,List.set_cons_succ,i64_w,i32_w]
              rfl
             refine pure_ (i:=4) (N:=some 31) (v:=?_) (a':=?_) #[true,true,true,false,true,false,false,false,false,false] rfl rfl (any_of HT_.out (by kernel_rfl)) (fun _ _ _ h=>h) (Or.inl ⟨by rfl, ?_⟩) ?_ ?_
             rotate_left
             ·intro w'
              go_simp
              with_reducible rfl
             rotate_left
             ·simp only [Act.put,List.setIfInBounds_toArray,List.set_cons_zero,List.set_cons_succ,i64_w,i32_w]
              rfl
             refine pure_ (i:=5) (N:=some 32) (v:=?_) (a':=?_) #[true,true,true,false,true,true,false,false,false,false] rfl rfl (any_of HT_.out (by kernel_rfl)) (fun _ _ _ h=>h) (Or.inl ⟨by rfl, ?_⟩) ?_ ?_
             rotate_left
             ·intro w'
              go_simp
              with_reducible rfl
             rotate_left
             ·simp only [Act.put,List.setIfInBounds_toArray,List.set_cons_zero,List.set_cons_succ,i64_w,i32_w]
              rfl
             refine pure_ (i:=6) (N:=some 33) (v:=?_) (a':=?_) #[true,true,true,false,true,true,true,false,false,false] rfl rfl (any_of HT_.out (by kernel_rfl)) (fun _ _ _ h=>h) (Or.inl ⟨by rfl, ?_⟩) ?_ ?_
             rotate_left
             ·intro w'
              go_simp
              with_reducible rfl
             rotate_left
             ·simp only [Act.put,List.setIfInBounds_toArray,List.set_cons_zero,List.set_cons_succ,i64_w,i32_w]
              rfl
             refine take_ (i:=3) (N:=some 30) (v:=?_) (a':=?_) #[true,true,true,true,true,true,true,false,false,false] rfl rfl (take_ofW HT_.out HW_.out (by kernel_rfl)) (fun _ _ _ h=>h) (Or.inl ⟨by rfl, ?_⟩) hHeld ?_ ?_
             rotate_left
             ·rintro w' ⟨s0,s1,s2,s3,s4,s5,s6,s7⟩
              go_simp
              with_reducible rfl
             rotate_left
             ·simp only [Act.put,List.setIfInBounds_toArray,List.set_cons_zero,List.set_cons_succ,i64_w,i32_w]
              rfl
             refine take_ (i:=7) (N:=some 34) (v:=?_) (a':=?_) #[true,true,true,true,true,true,true,true,false,false] rfl rfl (take_ofW HT_.out HW_.out (by kernel_rfl)) (fun _ _ _ h=>h) (Or.inl ⟨by rfl, ?_⟩) hHeld ?_ ?_
             rotate_left
             ·rintro w' ⟨s0,s1,s2,s3,s4,s5,s6,s7⟩
              go_simp
              with_reducible rfl
             rotate_left
             ·simp only [Act.put,List.setIfInBounds_toArray,List.set_cons_zero,List.set_cons_succ,i64_w,i32_w]
              rfl
             refine one_ (i:=8) (N:=some 35) #[true,true,true,true,true,true,true,true,true,false] rfl rfl (one_of HT_.out (by kernel_rfl)) (by decide) (fun K hK=>?_)
             refine goes_ Tryz.func71 (by kernel_rfl) rfl #[.agg #[.int .i64 ((rd_T64 l0 x5_2).f0),.int .i64 ((rd_T64 l0 x5_2).f1),.int .u64 ((rd_T64 l0 x5_2).f2),.string ((rd_T64 l0 x5_2).f3)],.agg #[.int .i64 ((rd_T64 l1 x5_2).f0),.int .i64 ((rd_T64 l1 x5_2).f1),.int .u64 ((rd_T64 l1 x5_2).f2),.string ((rd_T64 l1 x5_2).f3)]] (by rfl) rfl rfl (by (try simp only [List.map_toArray,List.map_cons,List.map_nil]);first | done | rfl | (simp only [List.length_drop,List.length_take];rfl)) ?_
             with_reducible refine (xrCompare.calls ((rd_T64 l0 x5_2).f0) ((rd_T64 l0 x5_2).f1) ((rd_T64 l0 x5_2).f2) ((rd_T64 l0 x5_2).f3) ((rd_T64 l1 x5_2).f0) ((rd_T64 l1 x5_2).f1) ((rd_T64 l1 x5_2).f2) ((rd_T64 l1 x5_2).f3) t126 _ A17.out).mono ?_
             rintro e w20 ⟨rfl,hb⟩
             refine ⟨_,rfl, ?_⟩
             have n0_:=Aside0.mk (below_step (by repeat (first | (with_reducible first | exact HB.out | apply below_alloc | apply pw_below_drewN | apply below_drew1) | exact HB.out)) hb)
             clear HB
             have HB:=n0_
             clear n0_
             (try clear hb)
             (try clear hb2)
             (try clear hk)
             (try clear hi)
             refine hK.out _ _ ⟨((HB.out.cell (World.block_lt_of_cell? w _ hw124_0)).trans hw124_0),((HB.out.cell (World.block_lt_of_cell? w _ hw124_1)).trans hw124_1),((HB.out.cell (World.block_lt_of_cell? w _ hw124_2)).trans hw124_2),((HB.out.cell (World.block_lt_of_cell? w _ hw124_3)).trans hw124_3),((HB.out.cell (World.block_lt_of_cell? w _ hw125_0)).trans hw125_0),((HB.out.cell (World.block_lt_of_cell? w _ hw125_1)).trans hw125_1),((HB.out.cell (World.block_lt_of_cell? w _ hw125_2)).trans hw125_2),((HB.out.cell (World.block_lt_of_cell? w _ hw125_3)).trans hw125_3)⟩ (fun hHeld=>?_)
             clear hK K
             refine norm_ (a':=?_) ?_ ?_
             rotate_left
             ·show Act.put _ (some 35) _ = _
              simp only [Act.put,List.setIfInBounds_toArray,List.set_cons_zero,List.set_cons_succ,i64_w,i32_w]
              rfl
             refine pure_ (i:=9) (N:=some 6) (v:=?_) (a':=?_) #[true,true,true,true,true,true,true,true,true,true] rfl rfl (any_of HT_.out (by kernel_rfl)) (fun _ _ _ h=>h) (Or.inl ⟨by rfl, ?_⟩) ?_ ?_
             rotate_left
             ·intro w'
              go_simp
              with_reducible rfl
             rotate_left
             ·simp only [Act.put,List.setIfInBounds_toArray,List.set_cons_zero,List.set_cons_succ,i64_w,i32_w]
              rfl
             refine done_ (done_of HT_.out (by kernel_rfl)) ?_
             try go_wp2
             go_roundg kj10
             case measure=>have:=HJ2.out;have:=HK2.out;have:=HJ10.out;omega
             case rel=>exact ⟨(wrap64 (x5_2 + 1)),(by first | rfl | (simp;done) | (simp [*];done)),H',⟨by have:=HJ2.out;have:=HK2.out;have:=HJ10.out;omega⟩,⟨by repeat (first | (with_reducible first | exact HB.out | apply below_alloc | apply pw_below_drewN | apply below_drew1) | exact HB.out)⟩⟩
            ·rw [if_neg c18] at H
             have c18b0 : (t126 == 0) = false:=beq_eq_false_iff_ne.mpr c18
             have c18b1 : (t126 != 0) = true:=bne_iff_ne.mpr c18
             obtain rfl:=Option.some.inj H
             try go_wp2
             have n0_:=Aside0.mk (below_drew1 HB.out)
             clear HB
             have HB:=n0_
             clear n0_
             have p124 : 0 ≤ (x5_2 : Int):=of_decide_eq_true (by first | (with_reducible assumption) | assumption)
             have q124 : x5_2 < (l0.length : Int):=of_decide_eq_true (by first | (with_reducible assumption) | assumption)
             obtain ⟨ad124,e124,hx124_0,hx124_1,hx124_2,hx124_3⟩:=at_T64 HR0.out x5_2 p124 q124
             have hw124_3:=hx124_3
             have hw124_2:=hx124_2
             have hw124_1:=hx124_1
             have hw124_0:=hx124_0
             cases e124
             replace hx124_0:=(HB.out.cell (World.block_lt_of_cell? w _ hx124_0)).trans hx124_0
             replace hx124_1:=(HB.out.cell (World.block_lt_of_cell? w _ hx124_1)).trans hx124_1
             replace hx124_2:=(HB.out.cell (World.block_lt_of_cell? w _ hx124_2)).trans hx124_2
             replace hx124_3:=(HB.out.cell (World.block_lt_of_cell? w _ hx124_3)).trans hx124_3
             replace p124:=eq_true p124
             replace q124:=eq_true q124
             have p125 : 0 ≤ (x5_2 : Int):=of_decide_eq_true (by first | (with_reducible assumption) | assumption)
             have q125 : x5_2 < (l1.length : Int):=of_decide_eq_true (by first | (with_reducible assumption) | assumption)
             obtain ⟨ad125,e125,hx125_0,hx125_1,hx125_2,hx125_3⟩:=at_T64 HR1.out x5_2 p125 q125
             have hw125_3:=hx125_3
             have hw125_2:=hx125_2
             have hw125_1:=hx125_1
             have hw125_0:=hx125_0
             cases e125
             replace hx125_0:=(HB.out.cell (World.block_lt_of_cell? w _ hx125_0)).trans hx125_0
             replace hx125_1:=(HB.out.cell (World.block_lt_of_cell? w _ hx125_1)).trans hx125_1
             replace hx125_2:=(HB.out.cell (World.block_lt_of_cell? w _ hx125_2)).trans hx125_2
             replace hx125_3:=(HB.out.cell (World.block_lt_of_cell? w _ hx125_3)).trans hx125_3
             replace p125:=eq_true p125
             replace q125:=eq_true q125
             refine start_ (n:=10) (S:=fun w'=>w'.cell? (ad124.add ((x5_2).toNat * 4)) = some (.int .i64 ((rd_T64 l0 x5_2).f0)) ∧ w'.cell? ⟨(ad124.add ((x5_2).toNat * 4)).block,(ad124.add ((x5_2).toNat * 4)).off + 1,none⟩ = some (.int .i64 ((rd_T64 l0 x5_2).f1)) ∧ w'.cell? ⟨(ad124.add ((x5_2).toNat * 4)).block,(ad124.add ((x5_2).toNat * 4)).off + 2,none⟩ = some (.int .u64 ((rd_T64 l0 x5_2).f2)) ∧ w'.cell? ⟨(ad124.add ((x5_2).toNat * 4)).block,(ad124.add ((x5_2).toNat * 4)).off + 3,none⟩ = some (.string ((rd_T64 l0 x5_2).f3)) ∧ w'.cell? (ad125.add ((x5_2).toNat * 4)) = some (.int .i64 ((rd_T64 l1 x5_2).f0)) ∧ w'.cell? ⟨(ad125.add ((x5_2).toNat * 4)).block,(ad125.add ((x5_2).toNat * 4)).off + 1,none⟩ = some (.int .i64 ((rd_T64 l1 x5_2).f1)) ∧ w'.cell? ⟨(ad125.add ((x5_2).toNat * 4)).block,(ad125.add ((x5_2).toNat * 4)).off + 2,none⟩ = some (.int .u64 ((rd_T64 l1 x5_2).f2)) ∧ w'.cell? ⟨(ad125.add ((x5_2).toNat * 4)).block,(ad125.add ((x5_2).toNat * 4)).off + 3,none⟩ = some (.string ((rd_T64 l1 x5_2).f3))) (ds:=[]) #[false,false,false,false,false,false,false,false,false,false] (by kernel_rfl) rfl rfl ⟨((HB.out.cell (World.block_lt_of_cell? w _ hw124_0)).trans hw124_0),((HB.out.cell (World.block_lt_of_cell? w _ hw124_1)).trans hw124_1),((HB.out.cell (World.block_lt_of_cell? w _ hw124_2)).trans hw124_2),((HB.out.cell (World.block_lt_of_cell? w _ hw124_3)).trans hw124_3),((HB.out.cell (World.block_lt_of_cell? w _ hw125_0)).trans hw125_0),((HB.out.cell (World.block_lt_of_cell? w _ hw125_1)).trans hw125_1),((HB.out.cell (World.block_lt_of_cell? w _ hw125_2)).trans hw125_2),((HB.out.cell (World.block_lt_of_cell? w _ hw125_3)).trans hw125_3)⟩ (fun hHeld=>?_);refine with_tabW freshetref02_Compare.tab6 freshetref02_Compare.bits6 (fun HT_ HW_=>?_)
             generalize wc.drew = w21 at HB hx124_0 hx124_1 hx124_2 hx124_3 hx125_0 hx125_1 hx125_2 hx125_3 hHeld ⊢
             refine pure_ (i:=0) (N:=some 27) (v:=?_) (a':=?_) #[true,false,false,false,false,false,false,false,false,false] rfl rfl (any_of HT_.out (by kernel_rfl)) (fun _ _ _ h=>h) (Or.inl ⟨by rfl, ?_⟩) ?_ ?_
             rotate_left
             ·intro w'
              go_simp
              with_reducible rfl
             rotate_left
             ·simp only [Act.put,List.setIfInBounds_toArray,List.set_cons_zero,List.set_cons_succ,i64_w,i32_w]
              rfl
             refine pure_ (i:=1) (N:=some 28) (v:=?_) (a':=?_) #[true,true,false,false,false,false,false,false,false,false] rfl rfl (any_of HT_.out (by kernel_rfl)) (fun _ _ _ h=>h) (Or.inl ⟨by rfl, ?_⟩) ?_ ?_
             rotate_left
             ·intro w'
              go_simp
              with_reducible rfl
             rotate_left
             ·simp only [Act.put,List.setIfInBounds_toArray,List.set_cons_zero,List.set_cons_succ,i64_w,i32_w]
              rfl
             refine pure_ (i:=2) (N:=some 29) (v:=?_) (a':=?_) #[true,true,true,false,false,false,false,false,false,false] rfl rfl (any_of HT_.out (by kernel_rfl)) (fun _ _ _ h=>h) (Or.inl ⟨by rfl, ?_⟩) ?_ ?_
             rotate_left
             ·intro w'
              go_simp
              with_reducible rfl
             rotate_left
             ·simp only [Act.put,List.setIfInBounds_toArray,List.set_cons_zero,List.set_cons_succ,i64_w,i32_w]
              rfl
             refine pure_ (i:=4) (N:=some 31) (v:=?_) (a':=?_) #[true,true,true,false,true,false,false,false,false,false] rfl rfl (any_of HT_.out (by kernel_rfl)) (fun _ _ _ h=>h) (Or.inl ⟨by rfl, ?_⟩) ?_ ?_
             rotate_left
             ·intro w'
              go_simp
              with_reducible rfl
             rotate_left
             ·simp only [Act.put,List.setIfInBounds_toArray,List.set_cons_zero,List.set_cons_succ,i64_w,i32_w]
              rfl
             refine pure_ (i:=5) (N:=some 32) (v:=?_) (a':=?_) #[true,true,true,false,true,true,false,false,false,false] rfl rfl (any_of HT_.out (by kernel_rfl)) (fun _ _ _ h=>h) (Or.inl ⟨by rfl, ?_⟩) ?_ ?_
             rotate_left
             ·intro w'
              go_simp
              with_reducible rfl
             rotate_left
             ·simp only [Act.put,List.setIfInBounds_toArray,List.set_cons_zero,List.set_cons_succ,i64_w,i32_w]
              rfl
             refine pure_ (i:=6) (N:=some 33) (v:=?_) (a':=?_) #[true,true,true,false,true,true,true,false,false,false] rfl rfl (any_of HT_.out (by kernel_rfl)) (fun _ _ _ h=>h) (Or.inl ⟨by rfl, ?_⟩) ?_ ?_
             rotate_left
             ·intro w'
              go_simp
              with_reducible rfl
             rotate_left
             ·simp only [Act.put,List.setIfInBounds_toArray,List.set_cons_zero,List.set_cons_succ,i64_w,i32_w]
              rfl
             refine take_ (i:=3) (N:=some 30) (v:=?_) (a':=?_) #[true,true,true,true,true,true,true,false,false,false] rfl rfl (take_ofW HT_.out HW_.out (by kernel_rfl)) (fun _ _ _ h=>h) (Or.inl ⟨by rfl, ?_⟩) hHeld ?_ ?_
             rotate_left
             ·rintro w' ⟨s0,s1,s2,s3,s4,s5,s6,s7⟩
              go_simp
              with_reducible rfl
             rotate_left
             ·simp only [Act.put,List.setIfInBounds_toArray,List.set_cons_zero,List.set_cons_succ,i64_w,i32_w]
              rfl
             refine take_ (i:=7) (N:=some 34) (v:=?_) (a':=?_) #[true,true,true,true,true,true,true,true,false,false] rfl rfl (take_ofW HT_.out HW_.out (by kernel_rfl)) (fun _ _ _ h=>h) (Or.inl ⟨by rfl, ?_⟩) hHeld ?_ ?_
             rotate_left
             ·rintro w' ⟨s0,s1,s2,s3,s4,s5,s6,s7⟩
              go_simp
              with_reducible rfl
             rotate_left
             ·simp only [Act.put,List.setIfInBounds_toArray,List.set_cons_zero,List.set_cons_succ,i64_w,i32_w]
              rfl
             refine one_ (i:=8) (N:=some 35) #[true,true,true,true,true,true,true,true,true,false] rfl rfl (one_of HT_.out (by kernel_rfl)) (by decide) (fun K hK=>?_)
             refine goes_ Tryz.func71 (by kernel_rfl) rfl #[.agg #[.int .i64 ((rd_T64 l0 x5_2).f0),.int .i64 ((rd_T64 l0 x5_2).f1),.int .u64 ((rd_T64 l0 x5_2).f2),.string ((rd_T64 l0 x5_2).f3)],.agg #[.int .i64 ((rd_T64 l1 x5_2).f0),.int .i64 ((rd_T64 l1 x5_2).f1),.int .u64 ((rd_T64 l1 x5_2).f2),.string ((rd_T64 l1 x5_2).f3)]] (by rfl) rfl rfl (by (try simp only [List.map_toArray,List.map_cons,List.map_nil]);first | done | rfl | (simp only [List.length_drop,List.length_take];rfl)) ?_
             with_reducible refine (xrCompare.calls ((rd_T64 l0 x5_2).f0) ((rd_T64 l0 x5_2).f1) ((rd_T64 l0 x5_2).f2) ((rd_T64 l0 x5_2).f3) ((rd_T64 l1 x5_2).f0) ((rd_T64 l1 x5_2).f1) ((rd_T64 l1 x5_2).f2) ((rd_T64 l1 x5_2).f3) t126 _ A17.out).mono ?_
             rintro e w22 ⟨rfl,hb⟩
             refine ⟨_,rfl, ?_⟩
             have n0_:=Aside0.mk (below_step (by repeat (first | (with_reducible first | exact HB.out | apply below_alloc | apply pw_below_drewN | apply below_drew1) | exact HB.out)) hb)
             clear HB
             have HB:=n0_
             clear n0_
             (try clear hb)
             (try clear hb2)
             (try clear hk)
             (try clear hi)
             refine hK.out _ _ ⟨((HB.out.cell (World.block_lt_of_cell? w _ hw124_0)).trans hw124_0),((HB.out.cell (World.block_lt_of_cell? w _ hw124_1)).trans hw124_1),((HB.out.cell (World.block_lt_of_cell? w _ hw124_2)).trans hw124_2),((HB.out.cell (World.block_lt_of_cell? w _ hw124_3)).trans hw124_3),((HB.out.cell (World.block_lt_of_cell? w _ hw125_0)).trans hw125_0),((HB.out.cell (World.block_lt_of_cell? w _ hw125_1)).trans hw125_1),((HB.out.cell (World.block_lt_of_cell? w _ hw125_2)).trans hw125_2),((HB.out.cell (World.block_lt_of_cell? w _ hw125_3)).trans hw125_3)⟩ (fun hHeld=>?_)
             clear hK K
             refine norm_ (a':=?_) ?_ ?_
             rotate_left
             ·show Act.put _ (some 35) _ = _
              simp only [Act.put,List.setIfInBounds_toArray,List.set_cons_zero,List.set_cons_succ,i64_w,i32_w]
              rfl
             refine pure_ (i:=9) (N:=some 6) (v:=?_) (a':=?_) #[true,true,true,true,true,true,true,true,true,true] rfl rfl (any_of HT_.out (by kernel_rfl)) (fun _ _ _ h=>h) (Or.inl ⟨by rfl, ?_⟩) ?_ ?_
             rotate_left
             ·intro w'
              go_simp
              with_reducible rfl
             rotate_left
             ·simp only [Act.put,List.setIfInBounds_toArray,List.set_cons_zero,List.set_cons_succ,i64_w,i32_w]
              rfl
             refine done_ (done_of HT_.out (by kernel_rfl)) ?_
             try go_wp2
             go_ret
             exact ⟨by first | rfl | (simp [errW_none,errW_some] <;> rfl) | (simp [*,errW_none,errW_some] <;> rfl),by repeat (first | (with_reducible first | exact HB.out | apply below_alloc | apply pw_below_drewN | apply below_drew1) | exact HB.out)⟩
           ·rw [if_neg c16] at H
            exact absurd H (by simp)
          ·rw [if_neg c15] at H
           exact absurd H (by simp)
         ·rw [if_neg c14] at H
          exact absurd H (by simp)
        ·replace c13:=Bool.eq_false_iff.mpr c13
         subst c13
         have H1 : (if (l0.length : Int) < (l1.length : Int) then (some (-1)) else (if (l0.length : Int) > (l1.length : Int) then (some 1) else (some 0))) = some r:=by rw [if_neg (show ¬ (false = true) by decide)] at H;exact H
         clear H
         have H:=H1
         clear H1
         by_cases c23 : (l0.length : Int) < (l1.length : Int)
         ·rw [if_pos c23] at H
          have c23b0 : decide ((l0.length : Int) < (l1.length : Int)) = true:=decide_eq_true c23
          have c23b1 : decide (l0.length < l1.length) = true:=decide_eq_true (Int.ofNat_lt.mp c23)
          clear c23
          obtain rfl:=Option.some.inj H
          go_wp2
          go_ret
          exact ⟨by first | rfl | (simp [errW_none,errW_some] <;> rfl) | (simp [*,errW_none,errW_some] <;> rfl),by repeat (first | (with_reducible first | exact HB.out | apply below_alloc | apply pw_below_drewN | apply below_drew1) | exact HB.out)⟩
         ·rw [if_neg c23] at H
          have c23b0 : decide ((l0.length : Int) < (l1.length : Int)) = false:=decide_eq_false c23
          have c23b1 : decide (l0.length < l1.length) = false:=decide_eq_false (fun h=>c23 (Int.ofNat_lt.mpr h))
          clear c23
          by_cases c24 : (l0.length : Int) > (l1.length : Int)
          ·rw [if_pos c24] at H
           have c24b0 : decide ((l1.length : Int) < (l0.length : Int)) = true:=decide_eq_true c24
           have c24b1 : decide (l1.length < l0.length) = true:=decide_eq_true (Int.ofNat_lt.mp c24)
           clear c24
           obtain rfl:=Option.some.inj H
           go_wp2
           go_ret
           exact ⟨by first | rfl | (simp [errW_none,errW_some] <;> rfl) | (simp [*,errW_none,errW_some] <;> rfl),by repeat (first | (with_reducible first | exact HB.out | apply below_alloc | apply pw_below_drewN | apply below_drew1) | exact HB.out)⟩
          ·rw [if_neg c24] at H
           have c24b0 : decide ((l1.length : Int) < (l0.length : Int)) = false:=decide_eq_false c24
           have c24b1 : decide (l1.length < l0.length) = false:=decide_eq_false (fun h=>c24 (Int.ofNat_lt.mpr h))
           clear c24
           obtain rfl:=Option.some.inj H
           go_wp2
           go_ret
           exact ⟨by first | rfl | (simp [errW_none,errW_some] <;> rfl) | (simp [*,errW_none,errW_some] <;> rfl),by repeat (first | (with_reducible first | exact HB.out | apply below_alloc | apply pw_below_drewN | apply below_drew1) | exact HB.out)⟩
end Go.Proofs.YthpkjkcfhipjhaaGreatDoor.PRW
end
