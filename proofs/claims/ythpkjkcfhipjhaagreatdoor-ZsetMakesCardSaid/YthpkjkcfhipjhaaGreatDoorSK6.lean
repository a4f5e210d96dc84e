/- a part of the claim: what the card leans on, out of the texts PRSx2 (put together by wip/tools/shake.py). -/
import Derived.Test.YthpkjkcfhipjhaaGreatDoorSK4
import Derived.Test.YthpkjkcfhipjhaaGreatDoorSK5
section
namespace Go.Proofs.YthpkjkcfhipjhaaGreatDoor.PRS
open Go.RowKit Go.Proofs.YthpkjkcfhipjhaaGreatDoorW.PrintWords Go.Proofs.YthpkjkcfhipjhaaGreatDoorW.PrintLast
set_option linter.unusedVariables false
set_option linter.unusedSimpArgs false
def freshetref01_Show.l0 : Nat → ByteArray → Int → Int → Int → Int → ByteArray → Option (ByteArray)
 | 0,_,_,_,_,_,_=>none
 | k + 1,x3,x4,x136000,x136001,x136002,x136003=>if x4 ≥ 0 then (if 0 ≤ (IntKind.u64.wrap (x4)) then (if 0 ≤ (Go.bits .and .u64 (shr .u64 x136002 (IntKind.u64.wrap (x4))) 15) then (if (Go.bits .and .u64 (shr .u64 x136002 (IntKind.u64.wrap (x4))) 15) ≤ (IntKind.u64.wrap ((Go.bits .and .u64 (shr .u64 x136002 (IntKind.u64.wrap (x4))) 15) + 1)) then (if (IntKind.u64.wrap ((Go.bits .and .u64 (shr .u64 x136002 (IntKind.u64.wrap (x4))) 15) + 1)) ≤ 16 then (if x3.size + ((⟨#[48,49,50,51,52,53,54,55,56,57,97,98,99,100,101,102]⟩ : ByteArray).extract ((Go.bits .and .u64 (shr .u64 x136002 (IntKind.u64.wrap (x4))) 15) : Int).toNat ((IntKind.u64.wrap ((Go.bits .and .u64 (shr .u64 x136002 (IntKind.u64.wrap (x4))) 15) + 1)) : Int).toNat).size ≤ 9223372036854775807 then (freshetref01_Show.l0 k (x3 ++ ((⟨#[48,49,50,51,52,53,54,55,56,57,97,98,99,100,101,102]⟩ : ByteArray).extract ((Go.bits .and .u64 (shr .u64 x136002 (IntKind.u64.wrap (x4))) 15) : Int).toNat ((IntKind.u64.wrap ((Go.bits .and .u64 (shr .u64 x136002 (IntKind.u64.wrap (x4))) 15) + 1)) : Int).toNat)) (wrap64 (x4 - 4)) x136000 x136001 x136002 x136003) else (none)) else (none)) else (none)) else (none)) else (none)) else (some x3)
def freshetref01_Show.f (k : Nat) (a0_0 : Int) (a0_1 : Int) (a0_2 : Int) (a0_3 : ByteArray) : Option (ByteArray):=(xrSound.f a0_0 a0_1 a0_2 a0_3).bind fun t136=>(if t136 = true then (if a0_0 = 0 then (some (⟨#[78,85,76,76]⟩ : ByteArray)) else (if a0_0 = 1 then (if a0_1 = 1 then (some (⟨#[116,114,117,101]⟩ : ByteArray)) else (some (⟨#[102,97,108,115,101]⟩ : ByteArray))) else (if a0_0 = 2 then ((freshetref01_digits.f k a0_1).bind fun t137=>(some t137)) else (if a0_0 = 4 then ((freshetref01_Quoted.f k a0_3).bind fun t138=>(some t138)) else (freshetref01_Show.l0 k (⟨#[48,120]⟩ : ByteArray) 60 a0_0 a0_1 a0_2 a0_3))))) else (some (⟨#[]⟩ : ByteArray)))
theorem freshetref01_Show.mono_l : ∀ k,(∀ y0 y1 y2 y3 y4 y5,LeO (freshetref01_Show.l0 k y0 y1 y2 y3 y4 y5) (freshetref01_Show.l0 (k + 1) y0 y1 y2 y3 y4 y5))
 | 0=>fun _ _ _ _ _ _ r h=>by simp [freshetref01_Show.l0] at h
 | k + 1=>by
  have ih0:=freshetref01_Show.mono_l k
  ·intro y0 y1 y2 y3 y4 y5
   unfold freshetref01_Show.l0
   repeat' first
   | (with_reducible exact ih0 _ _ _ _ _ _)
   | (with_reducible exact freshetref01_Quoted.mono _ _)
   | (with_reducible exact freshetref01_digits.mono _ _)
   | (with_reducible exact LeO.refl _)
   | (with_reducible exact LeO.none _)
   | (with_reducible refine LeO.ite ?_ ?_)
   | (with_reducible refine LeO.bind ?_ (fun _=>?_))
   | exact ih0 _ _ _ _ _ _
   | exact freshetref01_Quoted.mono _ _
   | exact freshetref01_digits.mono _ _
   | exact LeO.none _
   | refine LeO.ite ?_ ?_
   | refine LeO.bind ?_ (fun _=>?_)
theorem freshetref01_Show.mono : ∀ a0 a1 a2 a3 k,LeO (freshetref01_Show.f k a0 a1 a2 a3) (freshetref01_Show.f (k + 1) a0 a1 a2 a3):=by
 intro a0 a1 a2 a3 k
 have ih0:=freshetref01_Show.mono_l k
 unfold freshetref01_Show.f
 repeat' first
   | (with_reducible exact ih0 _ _ _ _ _ _)
   | (with_reducible exact freshetref01_Quoted.mono _ _)
   | (with_reducible exact freshetref01_digits.mono _ _)
   | (with_reducible exact LeO.refl _)
   | (with_reducible exact LeO.none _)
   | (with_reducible refine LeO.ite ?_ ?_)
   | (with_reducible refine LeO.bind ?_ (fun _=>?_))
   | exact ih0 _ _ _ _ _ _
   | exact freshetref01_Quoted.mono _ _
   | exact freshetref01_digits.mono _ _
   | exact LeO.none _
   | refine LeO.ite ?_ ?_
   | refine LeO.bind ?_ (fun _=>?_)
set_option maxHeartbeats 8000000 in
set_option maxRecDepth 100000 in
theorem freshetref01_Show.calls (k : Nat) (a0_0 : Int) (a0_1 : Int) (a0_2 : Int) (a0_3 : ByteArray) (r : ByteArray) (w : World) (h : freshetref01_Show.f k a0_0 a0_1 a0_2 a0_3 = some r) :
  Calls Tryz.prog 52 #[.agg #[.int .i64 a0_0,.int .i64 a0_1,.int .u64 a0_2,.string a0_3]] w fun e w'=>e = .returned (.string r) ∧ Below w.heap.size w w':=by
 have hu64:=Tryz.underlying64
 have HB:=Aside0.mk (Below.refl w.heap.size w)
 have H : ((xrSound.f a0_0 a0_1 a0_2 a0_3).bind fun t136=>(if t136 = true then (if a0_0 = 0 then (some (⟨#[78,85,76,76]⟩ : ByteArray)) else (if a0_0 = 1 then (if a0_1 = 1 then (some (⟨#[116,114,117,101]⟩ : ByteArray)) else (some (⟨#[102,97,108,115,101]⟩ : ByteArray))) else (if a0_0 = 2 then ((freshetref01_digits.f k a0_1).bind fun t137=>(some t137)) else (if a0_0 = 4 then ((freshetref01_Quoted.f k a0_3).bind fun t138=>(some t138)) else (freshetref01_Show.l0 k (⟨#[48,120]⟩ : ByteArray) 60 a0_0 a0_1 a0_2 a0_3))))) else (some (⟨#[]⟩ : ByteArray)))) = some r:=h
 clear h
 replace H:=Option.bind_eq_some_iff.mp H
 obtain ⟨t136,A20,H⟩:=H
 replace H : (if t136 = true then (if a0_0 = 0 then (some (⟨#[78,85,76,76]⟩ : ByteArray)) else (if a0_0 = 1 then (if a0_1 = 1 then (some (⟨#[116,114,117,101]⟩ : ByteArray)) else (some (⟨#[102,97,108,115,101]⟩ : ByteArray))) else (if a0_0 = 2 then ((freshetref01_digits.f k a0_1).bind fun t137=>(some t137)) else (if a0_0 = 4 then ((freshetref01_Quoted.f k a0_3).bind fun t138=>(some t138)) else (freshetref01_Show.l0 k (⟨#[48,120]⟩ : ByteArray) 60 a0_0 a0_1 a0_2 a0_3))))) else (some (⟨#[]⟩ : ByteArray))) = some r:=H
 have A2:=Aside0.mk A20
 clear A20
 by_cases c3 : t136 = true
 ·subst c3
  have H1 : (if a0_0 = 0 then (some (⟨#[78,85,76,76]⟩ : ByteArray)) else (if a0_0 = 1 then (if a0_1 = 1 then (some (⟨#[116,114,117,101]⟩ : ByteArray)) else (some (⟨#[102,97,108,115,101]⟩ : ByteArray))) else (if a0_0 = 2 then ((freshetref01_digits.f k a0_1).bind fun t137=>(some t137)) else (if a0_0 = 4 then ((freshetref01_Quoted.f k a0_3).bind fun t138=>(some t138)) else (freshetref01_Show.l0 k (⟨#[48,120]⟩ : ByteArray) 60 a0_0 a0_1 a0_2 a0_3))))) = some r:=by rw [if_pos rfl] at H;exact H
  clear H
  have H:=H1
  clear H1
  by_cases c4 : a0_0 = 0
  ·rw [if_pos c4] at H
   have c4b0 : (a0_0 == 0) = true:=beq_iff_eq.mpr c4
   have c4b1 : (a0_0 != 0) = false:=bne_eq_false_iff_eq.mpr c4
   clear c4
   obtain rfl:=Option.some.inj H
   go_enter Tryz.func52,Tryz.ntmps52
   go_wp2_with (first | ((with_reducible refine gate_dst (N:=1) rfl ?_);refine box_event ?hg (N:=1) ?hd (cs:=#[.int .i64 a0_0,.int .i64 a0_1,.int .u64 a0_2,.string a0_3]) (t:=64) ?hr ?_;(case hd=>rfl);(case hg=>rfl);(case hr=>first | (go_simp;done) | (go_simp;rfl));intro gb135 hg w5 hbox hb;have n0_:=Aside0.mk (below_step (by repeat (first | (with_reducible first | exact HB.out | apply below_alloc | apply pw_below_drewN | apply below_drew1) | exact HB.out)) hb);have n1_:=Aside0.mk (hbox);have n2_:=Aside0.mk ((by rw [hg];exact (below_size (by repeat (first | (with_reducible first | exact HB.out | apply below_alloc | apply pw_below_drewN | apply below_drew1) | exact HB.out))) : w.heap.size ≤ gb135));have n3_:=n2_;clear HB;have HB:=n0_;have BK135:=n1_;have GW135:=n2_;have GE135:=n3_;clear n0_ n1_ n2_ n3_;clear hb hbox hg;have hcz6_0 : w5.cell? ⟨gb135,0,none⟩ = some (.int .i64 a0_0):=(blk_cell BK135.out 0).trans rfl;have hcz6_1 : w5.cell? ⟨gb135,1,none⟩ = some (.int .i64 a0_1):=(blk_cell BK135.out 1).trans rfl;have hcz6_2 : w5.cell? ⟨gb135,2,none⟩ = some (.int .u64 a0_2):=(blk_cell BK135.out 2).trans rfl;have hcz6_3 : w5.cell? ⟨gb135,3,none⟩ = some (.string a0_3):=(blk_cell BK135.out 3).trans rfl;have hfz6_0:=blk_frozen BK135.out 0;have hfz6_1:=blk_frozen BK135.out 1;have hfz6_2:=blk_frozen BK135.out 2;have hfz6_3:=blk_frozen BK135.out 3) | ((with_reducible refine gate_callee (f:=68) rfl ?_);refine goesL_ (some 7) rfl rfl Tryz.func68 (by kernel_rfl) rfl #[.agg #[.int .i64 a0_0,.int .i64 a0_1,.int .u64 a0_2,.string a0_3]] rfl (by (try simp only [List.map_toArray,List.map_cons,List.map_nil]);first | done | rfl | (simp only [List.length_drop,List.length_take];rfl)) ?_;(with_reducible refine (xrSound.calls a0_0 a0_1 a0_2 a0_3 true _ A2.out).mono ?_);rintro e w7 ⟨rfl,hb⟩;refine ⟨_,rfl, ?_⟩;have n0_:=Aside0.mk (blk_below (g:=gb135) (o:=.cells #[.int .i64 a0_0,.int .i64 a0_1,.int .u64 a0_2,.string a0_3] 64 (0,0)) (by (with_reducible repeat (first | refine blk_drewN ?_ _ | refine blk_drew ?_ | refine blk_alloc ?_ _));exact BK135.out) hb);have n1_:=Aside0.mk (below_step (by repeat (first | (with_reducible first | exact HB.out | apply below_alloc | apply pw_below_drewN | apply below_drew1 | refine below_set ?_ GE135.out) | exact HB.out)) hb);clear BK135;clear HB;have BK135:=n0_;have HB:=n1_;clear n0_ n1_;(try clear hb);(try clear hb2);(try clear hk);(try clear hi);have hcz8_0 : w7.cell? ⟨gb135,0,none⟩ = some (.int .i64 a0_0):=(blk_cell BK135.out 0).trans rfl;have hcz8_1 : w7.cell? ⟨gb135,1,none⟩ = some (.int .i64 a0_1):=(blk_cell BK135.out 1).trans rfl;have hcz8_2 : w7.cell? ⟨gb135,2,none⟩ = some (.int .u64 a0_2):=(blk_cell BK135.out 2).trans rfl;have hcz8_3 : w7.cell? ⟨gb135,3,none⟩ = some (.string a0_3):=(blk_cell BK135.out 3).trans rfl;have hfz8_0:=blk_frozen BK135.out 0;have hfz8_1:=blk_frozen BK135.out 1;have hfz8_2:=blk_frozen BK135.out 2;have hfz8_3:=blk_frozen BK135.out 3))
   go_ret
   exact ⟨by first | rfl | (simp [errW_none,errW_some] <;> rfl) | (simp [*,errW_none,errW_some] <;> rfl),by repeat (first | (with_reducible first | exact HB.out | apply below_alloc | apply pw_below_drewN | apply below_drew1 | refine below_set ?_ GE135.out) | exact HB.out)⟩
  ·rw [if_neg c4] at H
   have c4b0 : (a0_0 == 0) = false:=beq_eq_false_iff_ne.mpr c4
   have c4b1 : (a0_0 != 0) = true:=bne_iff_ne.mpr c4
   by_cases c9 : a0_0 = 1
   ·rw [if_pos c9] at H
    have c9b0 : (a0_0 == 1) = true:=beq_iff_eq.mpr c9
    have c9b1 : (a0_0 != 1) = false:=bne_eq_false_iff_eq.mpr c9
    clear c9
    by_cases c10 : a0_1 = 1
    ·rw [if_pos c10] at H
     have c10b0 : (a0_1 == 1) = true:=beq_iff_eq.mpr c10
     have c10b1 : (a0_1 != 1) = false:=bne_eq_false_iff_eq.mpr c10
     clear c10
     obtain rfl:=Option.some.inj H
     go_enter Tryz.func52,Tryz.ntmps52
     go_wp2_with (first | ((with_reducible refine gate_dst (N:=1) rfl ?_);refine box_event ?hg (N:=1) ?hd (cs:=#[.int .i64 a0_0,.int .i64 a0_1,.int .u64 a0_2,.string a0_3]) (t:=64) ?hr ?_;(case hd=>rfl);(case hg=>rfl);(case hr=>first | (go_simp;done) | (go_simp;rfl));intro gb135 hg w11 hbox hb;have n0_:=Aside0.mk (below_step (by repeat (first | (with_reducible first | exact HB.out | apply below_alloc | apply pw_below_drewN | apply below_drew1) | exact HB.out)) hb);have n1_:=Aside0.mk (hbox);have n2_:=Aside0.mk ((by rw [hg];exact (below_size (by repeat (first | (with_reducible first | exact HB.out | apply below_alloc | apply pw_below_drewN | apply below_drew1) | exact HB.out))) : w.heap.size ≤ gb135));have n3_:=n2_;clear HB;have HB:=n0_;have BK135:=n1_;have GW135:=n2_;have GE135:=n3_;clear n0_ n1_ n2_ n3_;clear hb hbox hg;have hcz12_0 : w11.cell? ⟨gb135,0,none⟩ = some (.int .i64 a0_0):=(blk_cell BK135.out 0).trans rfl;have hcz12_1 : w11.cell? ⟨gb135,1,none⟩ = some (.int .i64 a0_1):=(blk_cell BK135.out 1).trans rfl;have hcz12_2 : w11.cell? ⟨gb135,2,none⟩ = some (.int .u64 a0_2):=(blk_cell BK135.out 2).trans rfl;have hcz12_3 : w11.cell? ⟨gb135,3,none⟩ = some (.string a0_3):=(blk_cell BK135.out 3).trans rfl;have hfz12_0:=blk_frozen BK135.out 0;have hfz12_1:=blk_frozen BK135.out 1;have hfz12_2:=blk_frozen BK135.out 2;have hfz12_3:=blk_frozen BK135.out 3) | ((with_reducible refine gate_callee (f:=68) rfl ?_);refine goesL_ (some 7) rfl rfl Tryz.func68 (by kernel_rfl) rfl #[.agg #[.int .i64 a0_0,.int .i64 a0_1,.int .u64 a0_2,.string a0_3]] rfl (by (try simp only [List.map_toArray,List.map_cons,List.map_nil]);first | done | rfl | (simp only [List.length_drop,List.length_take];rfl)) ?_;(with_reducible refine (xrSound.calls a0_0 a0_1 a0_2 a0_3 true _ A2.out).mono ?_);rintro e w13 ⟨rfl,hb⟩;refine ⟨_,rfl, ?_⟩;have n0_:=Aside0.mk (blk_below (g:=gb135) (o:=.cells #[.int .i64 a0_0,.int .i64 a0_1,.int .u64 a0_2,.string a0_3] 64 (0,0)) (by (with_reducible repeat (first | refine blk_drewN ?_ _ | refine blk_drew ?_ | refine blk_alloc ?_ _));exact BK135.out) hb);have n1_:=Aside0.mk (below_step (by repeat (first | (with_reducible first | exact HB.out | apply below_alloc | apply pw_below_drewN | apply below_drew1 | refine below_set ?_ GE135.out) | exact HB.out)) hb);clear BK135;clear HB;have BK135:=n0_;have HB:=n1_;clear n0_ n1_;(try clear hb);(try clear hb2);(try clear hk);(try clear hi);have hcz14_0 : w13.cell? ⟨gb135,0,none⟩ = some (.int .i64 a0_0):=(blk_cell BK135.out 0).trans rfl;have hcz14_1 : w13.cell? ⟨gb135,1,none⟩ = some (.int .i64 a0_1):=(blk_cell BK135.out 1).trans rfl;have hcz14_2 : w13.cell? ⟨gb135,2,none⟩ = some (.int .u64 a0_2):=(blk_cell BK135.out 2).trans rfl;have hcz14_3 : w13.cell? ⟨gb135,3,none⟩ = some (.string a0_3):=(blk_cell BK135.out 3).trans rfl;have hfz14_0:=blk_frozen BK135.out 0;have hfz14_1:=blk_frozen BK135.out 1;have hfz14_2:=blk_frozen BK135.out 2;have hfz14_3:=blk_frozen BK135.out 3))
     go_ret
     exact ⟨by first | rfl | (simp [errW_none,errW_some] <;> rfl) | (simp [*,errW_none,errW_some] <;> rfl),by repeat (first | (with_reducible first | exact HB.out | apply below_alloc | apply pw_below_drewN | apply below_drew1 | refine below_set ?_ GE135.out) | exact HB.out)⟩
    ·rw [if_neg c10] at H
     have c10b0 : (a0_1 == 1) = false:=beq_eq_false_iff_ne.mpr c10
     have c10b1 : (a0_1 != 1) = true:=bne_iff_ne.mpr c10
     obtain rfl:=Option.some.inj H
     go_enter Tryz.func52,Tryz.ntmps52
     go_wp2_with (first | ((with_reducible refine gate_dst (N:=1) rfl ?_);refine box_event ?hg (N:=1) ?hd (cs:=#[.int .i64 a0_0,.int .i64 a0_1,.int .u64 a0_2,.string a0_3]) (t:=64) ?hr ?_;(case hd=>rfl);(case hg=>rfl);(case hr=>first | (go_simp;done) | (go_simp;rfl));intro gb135 hg w15 hbox hb;have n0_:=Aside0.mk (below_step (by repeat (first | (with_reducible first | exact HB.out | apply below_alloc | apply pw_below_drewN | apply below_drew1) | exact HB.out)) hb);have n1_:=Aside0.mk (hbox);have n2_:=Aside0.mk ((by rw [hg];exact (below_size (by repeat (first | (with_reducible first | exact HB.out | apply below_alloc | apply pw_below_drewN | apply below_drew1) | exact HB.out))) : w.heap.size ≤ gb135));have n3_:=n2_;clear HB;have HB:=n0_;have BK135:=n1_;have GW135:=n2_;have GE135:=n3_;clear n0_ n1_ n2_ n3_;clear hb hbox hg;have hcz16_0 : w15.cell? ⟨gb135,0,none⟩ = some (.int .i64 a0_0):=(blk_cell BK135.out 0).trans rfl;have hcz16_1 : w15.cell? ⟨gb135,1,none⟩ = some (.int .i64 a0_1):=(blk_cell BK135.out 1).trans rfl;have hcz16_2 : w15.cell? ⟨gb135,2,none⟩ = some (.int .u64 a0_2):=(blk_cell BK135.out 2).trans rfl;have hcz16_3 : w15.cell? ⟨gb135,3,none⟩ = some (.string a0_3):=(blk_cell BK135.out 3).trans rfl;have hfz16_0:=blk_frozen BK135.out 0;have hfz16_1:=blk_frozen BK135.out 1;have hfz16_2:=blk_frozen BK135.out 2;have hfz16_3:=blk_frozen BK135.out 3) | ((with_reducible refine gate_callee (f:=68) rfl ?_);refine goesL_ (some 7) rfl rfl Tryz.func68 (by kernel_rfl) rfl #[.agg #[.int .i64 a0_0,.int .i64 a0_1,.int .u64 a0_2,.string a0_3]] rfl (by (try simp only [List.map_toArray,List.map_cons,List.map_nil]);first | done | rfl | (simp only [List.length_drop,List.length_take];rfl)) ?_;(with_reducible refine (xrSound.calls a0_0 a0_1 a0_2 a0_3 true _ A2.out).mono ?_);rintro e w17 ⟨rfl,hb⟩;refine ⟨_,rfl, ?_⟩;have n0_:=Aside0.mk (blk_below (g:=gb135) (o:=.cells #[.int .i64 a0_0,.int .i64 a0_1,.int .u64 a0_2,.string a0_3] 64 (0,0)) (by (with_reducible repeat (first | refine blk_drewN ?_ _ | refine blk_drew ?_ | refine blk_alloc ?_ _));exact BK135.out) hb);have n1_:=Aside0.mk (below_step (by repeat (first | (with_reducible first | exact HB.out | apply below_alloc | apply pw_below_drewN | apply below_drew1 | refine below_set ?_ GE135.out) | exact HB.out)) hb);clear BK135;clear HB;have BK135:=n0_;have HB:=n1_;clear n0_ n1_;(try clear hb);(try clear hb2);(try clear hk);(try clear hi);have hcz18_0 : w17.cell? ⟨gb135,0,none⟩ = some (.int .i64 a0_0):=(blk_cell BK135.out 0).trans rfl;have hcz18_1 : w17.cell? ⟨gb135,1,none⟩ = some (.int .i64 a0_1):=(blk_cell BK135.out 1).trans rfl;have hcz18_2 : w17.cell? ⟨gb135,2,none⟩ = some (.int .u64 a0_2):=(blk_cell BK135.out 2).trans rfl;have hcz18_3 : w17.cell? ⟨gb135,3,none⟩ = some (.string a0_3):=(blk_cell BK135.out 3).trans rfl;have hfz18_0:=blk_frozen BK135.out 0;have hfz18_1:=blk_frozen BK135.out 1;have hfz18_2:=blk_frozen BK135.out 2;have hfz18_3:=blk_frozen BK135.out 3))
     go_ret
     exact ⟨by first | rfl | (simp [errW_none,errW_some] <;> rfl) | (simp [*,errW_none,errW_some] <;> rfl),by repeat (first | (with_reducible first | exact HB.out | apply below_alloc | apply pw_below_drewN | apply below_drew1 | refine below_set ?_ GE135.out) | exact HB.out)⟩
   ·rw [if_neg c9] at H
    have c9b0 : (a0_0 == 1) = false:=beq_eq_false_iff_ne.mpr c9
    have c9b1 : (a0_0 != 1) = true:=bne_iff_ne.mpr c9
    by_cases c19 : a0_0 = 2
    ·rw [if_pos c19] at H
     have c19b0 : (a0_0 == 2) = true:=beq_iff_eq.mpr c19
     have c19b1 : (a0_0 != 2) = false:=bne_eq_false_iff_eq.mpr c19
     clear c19
     replace H:=Option.bind_eq_some_iff.mp H
     obtain ⟨t137,A200,H⟩:=H
     replace H : (some t137) = some r:=H
     have A20:=Aside0.mk A200
     clear A200
     obtain rfl:=Option.some.inj H
     go_enter Tryz.func52,Tryz.ntmps52
     go_wp2_with (first | ((with_reducible refine gate_dst (N:=1) rfl ?_);refine box_event ?hg (N:=1) ?hd (cs:=#[.int .i64 a0_0,.int .i64 a0_1,.int .u64 a0_2,.string a0_3]) (t:=64) ?hr ?_;(case hd=>rfl);(case hg=>rfl);(case hr=>first | (go_simp;done) | (go_simp;rfl));intro gb135 hg w21 hbox hb;have n0_:=Aside0.mk (below_step (by repeat (first | (with_reducible first | exact HB.out | apply below_alloc | apply pw_below_drewN | apply below_drew1) | exact HB.out)) hb);have n1_:=Aside0.mk (hbox);have n2_:=Aside0.mk ((by rw [hg];exact (below_size (by repeat (first | (with_reducible first | exact HB.out | apply below_alloc | apply pw_below_drewN | apply below_drew1) | exact HB.out))) : w.heap.size ≤ gb135));have n3_:=n2_;clear HB;have HB:=n0_;have BK135:=n1_;have GW135:=n2_;have GE135:=n3_;clear n0_ n1_ n2_ n3_;clear hb hbox hg;have hcz22_0 : w21.cell? ⟨gb135,0,none⟩ = some (.int .i64 a0_0):=(blk_cell BK135.out 0).trans rfl;have hcz22_1 : w21.cell? ⟨gb135,1,none⟩ = some (.int .i64 a0_1):=(blk_cell BK135.out 1).trans rfl;have hcz22_2 : w21.cell? ⟨gb135,2,none⟩ = some (.int .u64 a0_2):=(blk_cell BK135.out 2).trans rfl;have hcz22_3 : w21.cell? ⟨gb135,3,none⟩ = some (.string a0_3):=(blk_cell BK135.out 3).trans rfl;have hfz22_0:=blk_frozen BK135.out 0;have hfz22_1:=blk_frozen BK135.out 1;have hfz22_2:=blk_frozen BK135.out 2;have hfz22_3:=blk_frozen BK135.out 3) | ((with_reducible refine gate_callee (f:=68) rfl ?_);refine goesL_ (some 7) rfl rfl Tryz.func68 (by kernel_rfl) rfl #[.agg #[.int .i64 a0_0,.int .i64 a0_1,.int .u64 a0_2,.string a0_3]] rfl (by (try simp only [List.map_toArray,List.map_cons,List.map_nil]);first | done | rfl | (simp only [List.length_drop,List.length_take];rfl)) ?_;(with_reducible refine (xrSound.calls a0_0 a0_1 a0_2 a0_3 true _ A2.out).mono ?_);rintro e w23 ⟨rfl,hb⟩;refine ⟨_,rfl, ?_⟩;have n0_:=Aside0.mk (blk_below (g:=gb135) (o:=.cells #[.int .i64 a0_0,.int .i64 a0_1,.int .u64 a0_2,.string a0_3] 64 (0,0)) (by (with_reducible repeat (first | refine blk_drewN ?_ _ | refine blk_drew ?_ | refine blk_alloc ?_ _));exact BK135.out) hb);have n1_:=Aside0.mk (below_step (by repeat (first | (with_reducible first | exact HB.out | apply below_alloc | apply pw_below_drewN | apply below_drew1 | refine below_set ?_ GE135.out) | exact HB.out)) hb);clear BK135;clear HB;have BK135:=n0_;have HB:=n1_;clear n0_ n1_;(try clear hb);(try clear hb2);(try clear hk);(try clear hi);have hcz24_0 : w23.cell? ⟨gb135,0,none⟩ = some (.int .i64 a0_0):=(blk_cell BK135.out 0).trans rfl;have hcz24_1 : w23.cell? ⟨gb135,1,none⟩ = some (.int .i64 a0_1):=(blk_cell BK135.out 1).trans rfl;have hcz24_2 : w23.cell? ⟨gb135,2,none⟩ = some (.int .u64 a0_2):=(blk_cell BK135.out 2).trans rfl;have hcz24_3 : w23.cell? ⟨gb135,3,none⟩ = some (.string a0_3):=(blk_cell BK135.out 3).trans rfl;have hfz24_0:=blk_frozen BK135.out 0;have hfz24_1:=blk_frozen BK135.out 1;have hfz24_2:=blk_frozen BK135.out 2;have hfz24_3:=blk_frozen BK135.out 3) | ((with_reducible refine gate_callee (f:=78) rfl ?_);refine goesL_ (some 22) rfl rfl Tryz.func78 (by kernel_rfl) rfl #[.int .i64 a0_1] rfl (by (try simp only [List.map_toArray,List.map_cons,List.map_nil]);first | done | rfl | (simp only [List.length_drop,List.length_take];rfl)) ?_;(with_reducible refine (freshetref01_digits.calls k a0_1 t137 _ A20.out).mono ?_);rintro e w25 ⟨rfl,hb⟩;refine ⟨_,rfl, ?_⟩;have n0_:=Aside0.mk (blk_below (g:=gb135) (o:=.cells #[.int .i64 a0_0,.int .i64 a0_1,.int .u64 a0_2,.string a0_3] 64 (0,0)) (by (with_reducible repeat (first | refine blk_drewN ?_ _ | refine blk_drew ?_ | refine blk_alloc ?_ _));exact BK135.out) hb);have n1_:=Aside0.mk (below_step (by repeat (first | (with_reducible first | exact HB.out | apply below_alloc | apply pw_below_drewN | apply below_drew1 | refine below_set ?_ GE135.out) | exact HB.out)) hb);clear BK135;clear HB;have BK135:=n0_;have HB:=n1_;clear n0_ n1_;(try clear hb);(try clear hb2);(try clear hk);(try clear hi)))
     go_ret
     exact ⟨by first | rfl | (simp [errW_none,errW_some] <;> rfl) | (simp [*,errW_none,errW_some] <;> rfl),by repeat (first | (with_reducible first | exact HB.out | apply below_alloc | apply pw_below_drewN | apply below_drew1 | refine below_set ?_ GE135.out) | exact HB.out)⟩
    ·rw [if_neg c19] at H
     have c19b0 : (a0_0 == 2) = false:=beq_eq_false_iff_ne.mpr c19
     have c19b1 : (a0_0 != 2) = true:=bne_iff_ne.mpr c19
     by_cases c26 : a0_0 = 4
     ·rw [if_pos c26] at H
      have c26b0 : (a0_0 == 4) = true:=beq_iff_eq.mpr c26
      have c26b1 : (a0_0 != 4) = false:=bne_eq_false_iff_eq.mpr c26
      clear c26
      replace H:=Option.bind_eq_some_iff.mp H
      obtain ⟨t138,A270,H⟩:=H
      replace H : (some t138) = some r:=H
      have A27:=Aside0.mk A270
      clear A270
      obtain rfl:=Option.some.inj H
      go_enter Tryz.func52,Tryz.ntmps52
      go_wp2_with (first | ((with_reducible refine gate_dst (N:=1) rfl ?_);refine box_event ?hg (N:=1) ?hd (cs:=#[.int .i64 a0_0,.int .i64 a0_1,.int .u64 a0_2,.string a0_3]) (t:=64) ?hr ?_;(case hd=>rfl);(case hg=>rfl);(case hr=>first | (go_simp;done) | (go_simp;rfl));intro gb135 hg w28 hbox hb;have n0_:=Aside0.mk (below_step (by repeat (first | (with_reducible first | exact HB.out | apply below_alloc | apply pw_below_drewN | apply below_drew1) | exact HB.out)) hb);have n1_:=Aside0.mk (hbox);have n2_:=Aside0.mk ((by rw [hg];exact (below_size (by repeat (first | (with_reducible first | exact HB.out | apply below_alloc | apply pw_below_drewN | apply below_drew1) | exact HB.out))) : w.heap.size ≤ gb135));have n3_:=n2_;clear HB;have HB:=n0_;have BK135:=n1_;have GW135:=n2_;have GE135:=n3_;clear n0_ n1_ n2_ n3_;clear hb hbox hg;have hcz29_0 : w28.cell? ⟨gb135,0,none⟩ = some (.int .i64 a0_0):=(blk_cell BK135.out 0).trans rfl;have hcz29_1 : w28.cell? ⟨gb135,1,none⟩ = some (.int .i64 a0_1):=(blk_cell BK135.out 1).trans rfl;have hcz29_2 : w28.cell? ⟨gb135,2,none⟩ = some (.int .u64 a0_2):=(blk_cell BK135.out 2).trans rfl;have hcz29_3 : w28.cell? ⟨gb135,3,none⟩ = some (.string a0_3):=(blk_cell BK135.out 3).trans rfl;have hfz29_0:=blk_frozen BK135.out 0;have hfz29_1:=blk_frozen BK135.out 1;have hfz29_2:=blk_frozen BK135.out 2;have hfz29_3:=blk_frozen BK135.out 3) | ((with_reducible refine gate_callee (f:=68) rfl ?_);refine goesL_ (some 7) rfl rfl Tryz.func68 (by kernel_rfl) rfl #[.agg #[.int .i64 a0_0,.int .i64 a0_1,.int .u64 a0_2,.string a0_3]] rfl (by (try simp only [List.map_toArray,List.map_cons,List.map_nil]);first | done | rfl | (simp only [List.length_drop,List.length_take];rfl)) ?_;(with_reducible refine (xrSound.calls a0_0 a0_1 a0_2 a0_3 true _ A2.out).mono ?_);rintro e w30 ⟨rfl,hb⟩;refine ⟨_,rfl, ?_⟩;have n0_:=Aside0.mk (blk_below (g:=gb135) (o:=.cells #[.int .i64 a0_0,.int .i64 a0_1,.int .u64 a0_2,.string a0_3] 64 (0,0)) (by (with_reducible repeat (first | refine blk_drewN ?_ _ | refine blk_drew ?_ | refine blk_alloc ?_ _));exact BK135.out) hb);have n1_:=Aside0.mk (below_step (by repeat (first | (with_reducible first | exact HB.out | apply below_alloc | apply pw_below_drewN | apply below_drew1 | refine below_set ?_ GE135.out) | exact HB.out)) hb);clear BK135;clear HB;have BK135:=n0_;have HB:=n1_;clear n0_ n1_;(try clear hb);(try clear hb2);(try clear hk);(try clear hi);have hcz31_0 : w30.cell? ⟨gb135,0,none⟩ = some (.int .i64 a0_0):=(blk_cell BK135.out 0).trans rfl;have hcz31_1 : w30.cell? ⟨gb135,1,none⟩ = some (.int .i64 a0_1):=(blk_cell BK135.out 1).trans rfl;have hcz31_2 : w30.cell? ⟨gb135,2,none⟩ = some (.int .u64 a0_2):=(blk_cell BK135.out 2).trans rfl;have hcz31_3 : w30.cell? ⟨gb135,3,none⟩ = some (.string a0_3):=(blk_cell BK135.out 3).trans rfl;have hfz31_0:=blk_frozen BK135.out 0;have hfz31_1:=blk_frozen BK135.out 1;have hfz31_2:=blk_frozen BK135.out 2;have hfz31_3:=blk_frozen BK135.out 3) | ((with_reducible refine gate_callee (f:=79) rfl ?_);refine goesL_ (some 27) rfl rfl Tryz.func79 (by kernel_rfl) rfl #[.string a0_3] rfl (by (try simp only [List.map_toArray,List.map_cons,List.map_nil]);first | done | rfl | (simp only [List.length_drop,List.length_take];rfl)) ?_;(with_reducible refine (freshetref01_Quoted.calls k a0_3 t138 _ A27.out).mono ?_);rintro e w32 ⟨rfl,hb⟩;refine ⟨_,rfl, ?_⟩;have n0_:=Aside0.mk (blk_below (g:=gb135) (o:=.cells #[.int .i64 a0_0,.int .i64 a0_1,.int .u64 a0_2,.string a0_3] 64 (0,0)) (by (with_reducible repeat (first | refine blk_drewN ?_ _ | refine blk_drew ?_ | refine blk_alloc ?_ _));exact BK135.out) hb);have n1_:=Aside0.mk (below_step (by repeat (first | (with_reducible first | exact HB.out | apply below_alloc | apply pw_below_drewN | apply below_drew1 | refine below_set ?_ GE135.out) | exact HB.out)) hb);clear BK135;clear HB;have BK135:=n0_;have HB:=n1_;clear n0_ n1_;(try clear hb);(try clear hb2);(try clear hk);(try clear hi)))
      go_ret
      exact ⟨by first | rfl | (simp [errW_none,errW_some] <;> rfl) | (simp [*,errW_none,errW_some] <;> rfl),by repeat (first | (with_reducible first | exact HB.out | apply below_alloc | apply pw_below_drewN | apply below_drew1 | refine below_set ?_ GE135.out) | exact HB.out)⟩
     ·rw [if_neg c26] at H
      have c26b0 : (a0_0 == 4) = false:=beq_eq_false_iff_ne.mpr c26
      have c26b1 : (a0_0 != 4) = true:=bne_iff_ne.mpr c26
      have H':=Aside0.mk H
      clear H
      go_enter Tryz.func52,Tryz.ntmps52
      go_wp2_with (first | ((with_reducible refine gate_dst (N:=1) rfl ?_);refine box_event ?hg (N:=1) ?hd (cs:=#[.int .i64 a0_0,.int .i64 a0_1,.int .u64 a0_2,.string a0_3]) (t:=64) ?hr ?_;(case hd=>rfl);(case hg=>rfl);(case hr=>first | (go_simp;done) | (go_simp;rfl));intro gb135 hg w33 hbox hb;have n0_:=Aside0.mk (below_step (by repeat (first | (with_reducible first | exact HB.out | apply below_alloc | apply pw_below_drewN | apply below_drew1) | exact HB.out)) hb);have n1_:=Aside0.mk (hbox);have n2_:=Aside0.mk ((by rw [hg];exact (below_size (by repeat (first | (with_reducible first | exact HB.out | apply below_alloc | apply pw_below_drewN | apply below_drew1) | exact HB.out))) : w.heap.size ≤ gb135));have n3_:=n2_;clear HB;have HB:=n0_;have BK135:=n1_;have GW135:=n2_;have GE135:=n3_;clear n0_ n1_ n2_ n3_;clear hb hbox hg;have hcz34_0 : w33.cell? ⟨gb135,0,none⟩ = some (.int .i64 a0_0):=(blk_cell BK135.out 0).trans rfl;have hcz34_1 : w33.cell? ⟨gb135,1,none⟩ = some (.int .i64 a0_1):=(blk_cell BK135.out 1).trans rfl;have hcz34_2 : w33.cell? ⟨gb135,2,none⟩ = some (.int .u64 a0_2):=(blk_cell BK135.out 2).trans rfl;have hcz34_3 : w33.cell? ⟨gb135,3,none⟩ = some (.string a0_3):=(blk_cell BK135.out 3).trans rfl;have hfz34_0:=blk_frozen BK135.out 0;have hfz34_1:=blk_frozen BK135.out 1;have hfz34_2:=blk_frozen BK135.out 2;have hfz34_3:=blk_frozen BK135.out 3) | ((with_reducible refine gate_callee (f:=68) rfl ?_);refine goesL_ (some 7) rfl rfl Tryz.func68 (by kernel_rfl) rfl #[.agg #[.int .i64 a0_0,.int .i64 a0_1,.int .u64 a0_2,.string a0_3]] rfl (by (try simp only [List.map_toArray,List.map_cons,List.map_nil]);first | done | rfl | (simp only [List.length_drop,List.length_take];rfl)) ?_;(with_reducible refine (xrSound.calls a0_0 a0_1 a0_2 a0_3 true _ A2.out).mono ?_);rintro e w35 ⟨rfl,hb⟩;refine ⟨_,rfl, ?_⟩;have n0_:=Aside0.mk (blk_below (g:=gb135) (o:=.cells #[.int .i64 a0_0,.int .i64 a0_1,.int .u64 a0_2,.string a0_3] 64 (0,0)) (by (with_reducible repeat (first | refine blk_drewN ?_ _ | refine blk_drew ?_ | refine blk_alloc ?_ _));exact BK135.out) hb);have n1_:=Aside0.mk (below_step (by repeat (first | (with_reducible first | exact HB.out | apply below_alloc | apply pw_below_drewN | apply below_drew1 | refine below_set ?_ GE135.out) | exact HB.out)) hb);clear BK135;clear HB;have BK135:=n0_;have HB:=n1_;clear n0_ n1_;(try clear hb);(try clear hb2);(try clear hk);(try clear hi);have hcz36_0 : w35.cell? ⟨gb135,0,none⟩ = some (.int .i64 a0_0):=(blk_cell BK135.out 0).trans rfl;have hcz36_1 : w35.cell? ⟨gb135,1,none⟩ = some (.int .i64 a0_1):=(blk_cell BK135.out 1).trans rfl;have hcz36_2 : w35.cell? ⟨gb135,2,none⟩ = some (.int .u64 a0_2):=(blk_cell BK135.out 2).trans rfl;have hcz36_3 : w35.cell? ⟨gb135,3,none⟩ = some (.string a0_3):=(blk_cell BK135.out 3).trans rfl;have hfz36_0:=blk_frozen BK135.out 0;have hfz36_1:=blk_frozen BK135.out 1;have hfz36_2:=blk_frozen BK135.out 2;have hfz36_3:=blk_frozen BK135.out 3))
      go_loopg [3,4] k (fun kq v3 v4 w'=>∃ (x3_1 : ByteArray) (x4_1 : Int),v3 = .string x3_1 ∧ v4 = .int .i64 x4_1 ∧ Aside0 (freshetref01_Show.l0 kq x3_1 x4_1 a0_0 a0_1 a0_2 a0_3 = some r) ∧ Aside0 (kq ≤ k) ∧ Aside0 (w'.heap[gb135]? = some (.cells #[.int .i64 a0_0,.int .i64 a0_1,.int .u64 a0_2,.string a0_3] 64 (0,0))) ∧ Aside0 (Below w.heap.size w w'))
      case atStart=>exact ⟨((⟨#[48,120]⟩ : ByteArray)),(60),(by first | rfl | (simp;done) | (simp [*];done)),(by first | rfl | (simp;done) | (simp [*];done)),H',⟨Nat.le_refl _⟩,⟨by (with_reducible repeat (first | refine blk_drewN ?_ _ | refine blk_drew ?_ | refine blk_alloc ?_ _));exact BK135.out⟩,⟨by repeat (first | (with_reducible first | exact HB.out | apply below_alloc | apply pw_below_drewN | apply below_drew1 | refine below_set ?_ GE135.out) | exact HB.out)⟩⟩
      case round =>
       clear H'
       try clear c1
       try clear c2
       try clear p2
       try clear c3
       try clear c4
       try clear c4b0
       try clear c4b1
       try clear c5
       try clear c6
       try clear c7
       try clear c9
       try clear c9b0
       try clear c9b1
       try clear c10
       try clear c10b0
       try clear c10b1
       try clear c19
       try clear c19b0
       try clear c19b1
       try clear c26
       try clear c26b0
       try clear c26b1
       try clear hcz12_0
       try clear hcz12_1
       try clear hcz12_2
       try clear hcz12_3
       try clear hcz14_0
       try clear hcz14_1
       try clear hcz14_2
       try clear hcz14_3
       try clear hcz16_0
       try clear hcz16_1
       try clear hcz16_2
       try clear hcz16_3
       try clear hcz18_0
       try clear hcz18_1
       try clear hcz18_2
       try clear hcz18_3
       try clear hcz22_0
       try clear hcz22_1
       try clear hcz22_2
       try clear hcz22_3
       try clear hcz24_0
       try clear hcz24_1
       try clear hcz24_2
       try clear hcz24_3
       try clear hcz29_0
       try clear hcz29_1
       try clear hcz29_2
       try clear hcz29_3
       try clear hcz31_0
       try clear hcz31_1
       try clear hcz31_2
       try clear hcz31_3
       try clear hcz34_0
       try clear hcz34_1
       try clear hcz34_2
       try clear hcz34_3
       try clear hcz36_0
       try clear hcz36_1
       try clear hcz36_2
       try clear hcz36_3
       try clear hcz6_0
       try clear hcz6_1
       try clear hcz6_2
       try clear hcz6_3
       try clear hcz8_0
       try clear hcz8_1
       try clear hcz8_2
       try clear hcz8_3
       try clear hfz12_0
       try clear hfz12_1
       try clear hfz12_2
       try clear hfz12_3
       try clear hfz14_0
       try clear hfz14_1
       try clear hfz14_2
       try clear hfz14_3
       try clear hfz16_0
       try clear hfz16_1
       try clear hfz16_2
       try clear hfz16_3
       try clear hfz18_0
       try clear hfz18_1
       try clear hfz18_2
       try clear hfz18_3
       try clear hfz22_0
       try clear hfz22_1
       try clear hfz22_2
       try clear hfz22_3
       try clear hfz24_0
       try clear hfz24_1
       try clear hfz24_2
       try clear hfz24_3
       try clear hfz29_0
       try clear hfz29_1
       try clear hfz29_2
       try clear hfz29_3
       try clear hfz31_0
       try clear hfz31_1
       try clear hfz31_2
       try clear hfz31_3
       try clear hfz34_0
       try clear hfz34_1
       try clear hfz34_2
       try clear hfz34_3
       try clear hfz36_0
       try clear hfz36_1
       try clear hfz36_2
       try clear hfz36_3
       try clear hfz6_0
       try clear hfz6_1
       try clear hfz6_2
       try clear hfz6_3
       try clear hfz8_0
       try clear hfz8_1
       try clear hfz8_2
       try clear hfz8_3
       obtain ⟨x3_1,x4_1,rfl,rfl,HA,HK1,BK135,HB⟩:=hrel
       cases gk with
       | zero=>exact absurd HA.out (by simp [freshetref01_Show.l0])
       | succ k1 =>
        have H:=HA.out
        clear HA
        simp only [freshetref01_Show.l0] at H
        by_cases c37 : x4_1 ≥ 0
        ·rw [if_pos c37] at H
         have c37b0 : decide (0 ≤ x4_1) = true:=decide_eq_true c37
         clear c37
         obtain ⟨ji38,hji38⟩ : ∃ j_ : Int,(IntKind.u64.wrap (x4_1)) = j_:=⟨_,rfl⟩
         replace H : (if 0 ≤ (ji38) then (if 0 ≤ (Go.bits .and .u64 (shr .u64 a0_2 (ji38)) 15) then (if (Go.bits .and .u64 (shr .u64 a0_2 (ji38)) 15) ≤ (IntKind.u64.wrap ((Go.bits .and .u64 (shr .u64 a0_2 (ji38)) 15) + 1)) then (if (IntKind.u64.wrap ((Go.bits .and .u64 (shr .u64 a0_2 (ji38)) 15) + 1)) ≤ 16 then (if x3_1.size + ((⟨#[48,49,50,51,52,53,54,55,56,57,97,98,99,100,101,102]⟩ : ByteArray).extract ((Go.bits .and .u64 (shr .u64 a0_2 (ji38)) 15) : Int).toNat ((IntKind.u64.wrap ((Go.bits .and .u64 (shr .u64 a0_2 (ji38)) 15) + 1)) : Int).toNat).size ≤ 9223372036854775807 then (freshetref01_Show.l0 k1 (x3_1 ++ ((⟨#[48,49,50,51,52,53,54,55,56,57,97,98,99,100,101,102]⟩ : ByteArray).extract ((Go.bits .and .u64 (shr .u64 a0_2 (ji38)) 15) : Int).toNat ((IntKind.u64.wrap ((Go.bits .and .u64 (shr .u64 a0_2 (ji38)) 15) + 1)) : Int).toNat)) (wrap64 (x4_1 - 4)) a0_0 a0_1 a0_2 a0_3) else (none)) else (none)) else (none)) else (none)) else (none)) = some r:=by first | (rw [hji38] at H;exact H) | (simp only [hji38] at H ⊢;exact H)
         by_cases c39 : 0 ≤ (ji38)
         ·rw [if_pos c39] at H
          have c39b0:=eq_true c39
          have c39b1 : decide (0 ≤ (ji38)) = true:=decide_eq_true c39
          clear c39
          obtain ⟨ji40,hji40⟩ : ∃ j_ : Int,(shr .u64 a0_2 (ji38)) = j_:=⟨_,rfl⟩
          replace H : (if 0 ≤ (Go.bits .and .u64 (ji40) 15) then (if (Go.bits .and .u64 (ji40) 15) ≤ (IntKind.u64.wrap ((Go.bits .and .u64 (ji40) 15) + 1)) then (if (IntKind.u64.wrap ((Go.bits .and .u64 (ji40) 15) + 1)) ≤ 16 then (if x3_1.size + ((⟨#[48,49,50,51,52,53,54,55,56,57,97,98,99,100,101,102]⟩ : ByteArray).extract ((Go.bits .and .u64 (ji40) 15) : Int).toNat ((IntKind.u64.wrap ((Go.bits .and .u64 (ji40) 15) + 1)) : Int).toNat).size ≤ 9223372036854775807 then (freshetref01_Show.l0 k1 (x3_1 ++ ((⟨#[48,49,50,51,52,53,54,55,56,57,97,98,99,100,101,102]⟩ : ByteArray).extract ((Go.bits .and .u64 (ji40) 15) : Int).toNat ((IntKind.u64.wrap ((Go.bits .and .u64 (ji40) 15) + 1)) : Int).toNat)) (wrap64 (x4_1 - 4)) a0_0 a0_1 a0_2 a0_3) else (none)) else (none)) else (none)) else (none)) = some r:=by first | (rw [hji40] at H;exact H) | (simp only [hji40] at H ⊢;exact H)
          have hji40_ : (a0_2 / 2 ^ min (ji38).toNat 64) = ji40:=hji40
          have hji40z : (ji38) ≤ 64 → (a0_2 / 2 ^ (ji38).toNat) = ji40:=shr_small hji40
          by_cases c41 : 0 ≤ (Go.bits .and .u64 (ji40) 15)
          ·rw [if_pos c41] at H
           have c41b0:=eq_true c41
           have c41b1 : decide (0 ≤ (Go.bits .and .u64 (ji40) 15)) = true:=decide_eq_true c41
           clear c41
           by_cases c42 : (Go.bits .and .u64 (ji40) 15) ≤ (IntKind.u64.wrap ((Go.bits .and .u64 (ji40) 15) + 1))
           ·rw [if_pos c42] at H
            have c42b0:=eq_true c42
            have c42b1 : decide ((Go.bits .and .u64 (ji40) 15) ≤ (IntKind.u64.wrap ((Go.bits .and .u64 (ji40) 15) + 1))) = true:=decide_eq_true c42
            by_cases c43 : (IntKind.u64.wrap ((Go.bits .and .u64 (ji40) 15) + 1)) ≤ 16
            ·rw [if_pos c43] at H
             have c43b0:=eq_true c43
             have c43b1 : decide ((IntKind.u64.wrap ((Go.bits .and .u64 (ji40) 15) + 1)) ≤ 16) = true:=decide_eq_true c43
             by_cases c44 : x3_1.size + ((⟨#[48,49,50,51,52,53,54,55,56,57,97,98,99,100,101,102]⟩ : ByteArray).extract ((Go.bits .and .u64 (ji40) 15) : Int).toNat ((IntKind.u64.wrap ((Go.bits .and .u64 (ji40) 15) + 1)) : Int).toNat).size ≤ 9223372036854775807
             ·rw [if_pos c44] at H
              have c44b0:=eq_true c44
              have c44b1 : decide (x3_1.size + ((⟨#[48,49,50,51,52,53,54,55,56,57,97,98,99,100,101,102]⟩ : ByteArray).extract ((Go.bits .and .u64 (ji40) 15) : Int).toNat ((IntKind.u64.wrap ((Go.bits .and .u64 (ji40) 15) + 1)) : Int).toNat).size ≤ 9223372036854775807) = true:=decide_eq_true c44
              try have c44b2 : (9223372036854775807 < x3_1.size + ((⟨#[48,49,50,51,52,53,54,55,56,57,97,98,99,100,101,102]⟩ : ByteArray).extract ((Go.bits .and .u64 (ji40) 15) : Int).toNat ((IntKind.u64.wrap ((Go.bits .and .u64 (ji40) 15) + 1)) : Int).toNat).size) = False:=eq_false (Nat.not_lt.2 c44)
              have H':=Aside0.mk H
              clear H
              have hcz45_0 : wr.cell? ⟨gb135,0,none⟩ = some (.int .i64 a0_0):=(blk_cell BK135.out 0).trans rfl
              have hcz45_1 : wr.cell? ⟨gb135,1,none⟩ = some (.int .i64 a0_1):=(blk_cell BK135.out 1).trans rfl
              have hcz45_2 : wr.cell? ⟨gb135,2,none⟩ = some (.int .u64 a0_2):=(blk_cell BK135.out 2).trans rfl
              have hcz45_3 : wr.cell? ⟨gb135,3,none⟩ = some (.string a0_3):=(blk_cell BK135.out 3).trans rfl
              have hfz45_0:=blk_frozen BK135.out 0
              have hfz45_1:=blk_frozen BK135.out 1
              have hfz45_2:=blk_frozen BK135.out 2
              have hfz45_3:=blk_frozen BK135.out 3
              go_wp2
              go_roundg k1
              case measure=>have:=HK1.out;omega
              case rel=>exact ⟨(x3_1 ++ ((⟨#[48,49,50,51,52,53,54,55,56,57,97,98,99,100,101,102]⟩ : ByteArray).extract ((Go.bits .and .u64 (ji40) 15) : Int).toNat ((IntKind.u64.wrap ((Go.bits .and .u64 (ji40) 15) + 1)) : Int).toNat)),(wrap64 (x4_1 - 4)),(by first | rfl | (simp;done) | (simp only [← hji40] <;> (first | rfl | simp)) | (simp [*];done)),(by first | rfl | (simp;done) | (simp [*];done)),H',⟨by have:=HK1.out;omega⟩,⟨by (with_reducible repeat (first | refine blk_drewN ?_ _ | refine blk_drew ?_ | refine blk_alloc ?_ _));exact BK135.out⟩,⟨by repeat (first | (with_reducible first | exact HB.out | apply below_alloc | apply pw_below_drewN | apply below_drew1 | refine below_set ?_ GE135.out) | exact HB.out)⟩⟩
             ·rw [if_neg c44] at H
              exact absurd H (by simp)
            ·rw [if_neg c43] at H
             exact absurd H (by simp)
           ·rw [if_neg c42] at H
            exact absurd H (by simp)
          ·rw [if_neg c41] at H
           exact absurd H (by simp)
         ·rw [if_neg c39] at H
          exact absurd H (by simp)
        ·rw [if_neg c37] at H
         have c37b0 : decide (0 ≤ x4_1) = false:=decide_eq_false c37
         clear c37
         obtain rfl:=Option.some.inj H
         go_wp2
         go_ret
         exact ⟨by first | rfl | (simp [errW_none,errW_some] <;> rfl) | (simp [*,errW_none,errW_some] <;> rfl),by repeat (first | (with_reducible first | exact HB.out | apply below_alloc | apply pw_below_drewN | apply below_drew1 | refine below_set ?_ GE135.out) | exact HB.out)⟩
 ·replace c3:=Bool.eq_false_iff.mpr c3
  subst c3
  have H1 : (some (⟨#[]⟩ : ByteArray)) = some r:=by rw [if_neg (show ¬ (false = true) by decide)] at H;exact H
  clear H
  have H:=H1
  clear H1
  obtain rfl:=Option.some.inj H
  go_enter Tryz.func52,Tryz.ntmps52
  go_wp2_with (first | ((with_reducible refine gate_dst (N:=1) rfl ?_);refine box_event ?hg (N:=1) ?hd (cs:=#[.int .i64 a0_0,.int .i64 a0_1,.int .u64 a0_2,.string a0_3]) (t:=64) ?hr ?_;(case hd=>rfl);(case hg=>rfl);(case hr=>first | (go_simp;done) | (go_simp;rfl));intro gb135 hg w46 hbox hb;have n0_:=Aside0.mk (below_step (by repeat (first | (with_reducible first | exact HB.out | apply below_alloc | apply pw_below_drewN | apply below_drew1) | exact HB.out)) hb);have n1_:=Aside0.mk (hbox);have n2_:=Aside0.mk ((by rw [hg];exact (below_size (by repeat (first | (with_reducible first | exact HB.out | apply below_alloc | apply pw_below_drewN | apply below_drew1) | exact HB.out))) : w.heap.size ≤ gb135));have n3_:=n2_;clear HB;have HB:=n0_;have BK135:=n1_;have GW135:=n2_;have GE135:=n3_;clear n0_ n1_ n2_ n3_;clear hb hbox hg;have hcz47_0 : w46.cell? ⟨gb135,0,none⟩ = some (.int .i64 a0_0):=(blk_cell BK135.out 0).trans rfl;have hcz47_1 : w46.cell? ⟨gb135,1,none⟩ = some (.int .i64 a0_1):=(blk_cell BK135.out 1).trans rfl;have hcz47_2 : w46.cell? ⟨gb135,2,none⟩ = some (.int .u64 a0_2):=(blk_cell BK135.out 2).trans rfl;have hcz47_3 : w46.cell? ⟨gb135,3,none⟩ = some (.string a0_3):=(blk_cell BK135.out 3).trans rfl;have hfz47_0:=blk_frozen BK135.out 0;have hfz47_1:=blk_frozen BK135.out 1;have hfz47_2:=blk_frozen BK135.out 2;have hfz47_3:=blk_frozen BK135.out 3) | ((with_reducible refine gate_callee (f:=68) rfl ?_);refine goesL_ (some 7) rfl rfl Tryz.func68 (by kernel_rfl) rfl #[.agg #[.int .i64 a0_0,.int .i64 a0_1,.int .u64 a0_2,.string a0_3]] rfl (by (try simp only [List.map_toArray,List.map_cons,List.map_nil]);first | done | rfl | (simp only [List.length_drop,List.length_take];rfl)) ?_;(with_reducible refine (xrSound.calls a0_0 a0_1 a0_2 a0_3 false _ A2.out).mono ?_);rintro e w48 ⟨rfl,hb⟩;refine ⟨_,rfl, ?_⟩;have n0_:=Aside0.mk (blk_below (g:=gb135) (o:=.cells #[.int .i64 a0_0,.int .i64 a0_1,.int .u64 a0_2,.string a0_3] 64 (0,0)) (by (with_reducible repeat (first | refine blk_drewN ?_ _ | refine blk_drew ?_ | refine blk_alloc ?_ _));exact BK135.out) hb);have n1_:=Aside0.mk (below_step (by repeat (first | (with_reducible first | exact HB.out | apply below_alloc | apply pw_below_drewN | apply below_drew1 | refine below_set ?_ GE135.out) | exact HB.out)) hb);clear BK135;clear HB;have BK135:=n0_;have HB:=n1_;clear n0_ n1_;(try clear hb);(try clear hb2);(try clear hk);(try clear hi)))
  go_ret
  exact ⟨by first | rfl | (simp [errW_none,errW_some] <;> rfl) | (simp [*,errW_none,errW_some] <;> rfl),by repeat (first | (with_reducible first | exact HB.out | apply below_alloc | apply pw_below_drewN | apply below_drew1 | refine below_set ?_ GE135.out) | exact HB.out)⟩
end Go.Proofs.YthpkjkcfhipjhaaGreatDoor.PRS
end
