/- a part of the claim: what the card leans on, out of the texts PRZx4 (put together by wip/tools/shake.py). -/
import Derived.Test.YtakcjiinchghaaaGreatDoorQE1
import Derived.Test.YtakcjiinchghaaaGreatDoorQE5
import Derived.Test.YtakcjiinchghaaaGreatDoorQE10
import Derived.Test.YtakcjiinchghaaaGreatDoorProg
import Derived.Below
import Derived.Deep.Draws
import Derived.Deep.AppendLies
import Derived.Maps.AppendAt
import Derived.OwnWalk
import Derived.Laws.BytesArg
import Derived.Laws.MakeOwn
import Derived.Laws.OwnMore
import Derived.Deep.OwnRows
import Derived.Tactics
import Derived.Lib.ConvBytes
import Derived.Laws.Slices
import Derived.WalkKit
import Derived.KernelRfl
import Derived.RowKit3
import Derived.Deep.LoopGhost
import Derived.Deep.QuietTactic
import Derived.BigQuiet
import Derived.WideLaws
import Derived.Deep.DeepCutAuto
import Derived.Deep.CutBlock
import Derived.Deep.RegionHeld3
import Derived.Laws.Rows
import Derived.Lib.AppendStr
import Derived.ArgAppend
import Derived.Laws.IdiomCopy
import Derived.OrdersHeld
import Derived.Laws.BitsLemmas
import Derived.RowKit
section
namespace Go.Proofs.YtakcjiinchghaaaGreatDoor.PRZ
open Go.RowKit Go.Proofs.YtakcjiinchghaaaGreatDoorW.PrintWords Go.Proofs.YtakcjiinchghaaaGreatDoorW.PrintLast Go.Proofs.YtakcjiinchghaaaGreatDoor.PRW
set_option linter.unusedVariables false
set_option linter.unusedSimpArgs false
def freshetref01_ints.f (a0 : Int) (a1 : Int) (a2 : Int) : Option (Int × Int × Int × ByteArray × Int):=if a0 = 10 then (if a2 ≥ 0 then (if (wrap64 (a1 + a2)) < a1 then (some (0,0,0,(⟨#[]⟩ : ByteArray),11)) else (if a2 < 0 then (if (wrap64 (a1 + a2)) > a1 then (some (0,0,0,(⟨#[]⟩ : ByteArray),11)) else ((freshetref01_OfInt.f (wrap64 (a1 + a2))).bind fun bt144=>(some (bt144.1,bt144.2.1,bt144.2.2.1,bt144.2.2.2,0)))) else ((freshetref01_OfInt.f (wrap64 (a1 + a2))).bind fun bt148=>(some (bt148.1,bt148.2.1,bt148.2.2.1,bt148.2.2.2,0))))) else (if a2 < 0 then (if (wrap64 (a1 + a2)) > a1 then (some (0,0,0,(⟨#[]⟩ : ByteArray),11)) else ((freshetref01_OfInt.f (wrap64 (a1 + a2))).bind fun bt152=>(some (bt152.1,bt152.2.1,bt152.2.2.1,bt152.2.2.2,0)))) else ((freshetref01_OfInt.f (wrap64 (a1 + a2))).bind fun bt156=>(some (bt156.1,bt156.2.1,bt156.2.2.1,bt156.2.2.2,0))))) else (if a0 = 11 then (if a2 ≥ 0 then (if (wrap64 (a1 - a2)) > a1 then (some (0,0,0,(⟨#[]⟩ : ByteArray),11)) else (if a2 < 0 then (if (wrap64 (a1 - a2)) < a1 then (some (0,0,0,(⟨#[]⟩ : ByteArray),11)) else ((freshetref01_OfInt.f (wrap64 (a1 - a2))).bind fun bt160=>(some (bt160.1,bt160.2.1,bt160.2.2.1,bt160.2.2.2,0)))) else ((freshetref01_OfInt.f (wrap64 (a1 - a2))).bind fun bt164=>(some (bt164.1,bt164.2.1,bt164.2.2.1,bt164.2.2.2,0))))) else (if a2 < 0 then (if (wrap64 (a1 - a2)) < a1 then (some (0,0,0,(⟨#[]⟩ : ByteArray),11)) else ((freshetref01_OfInt.f (wrap64 (a1 - a2))).bind fun bt168=>(some (bt168.1,bt168.2.1,bt168.2.2.1,bt168.2.2.2,0)))) else ((freshetref01_OfInt.f (wrap64 (a1 - a2))).bind fun bt172=>(some (bt172.1,bt172.2.1,bt172.2.2.1,bt172.2.2.2,0))))) else (if a0 = 12 then (if a1 = (-1) then (if a2 = (-9223372036854775808) then (some (0,0,0,(⟨#[]⟩ : ByteArray),11)) else (if a2 = (-1) then (if a1 = (-9223372036854775808) then (some (0,0,0,(⟨#[]⟩ : ByteArray),11)) else (if a1 = 0 then ((freshetref01_OfInt.f (wrap64 (a1 * a2))).bind fun bt176=>(some (bt176.1,bt176.2.1,bt176.2.2.1,bt176.2.2.2,0))) else ((freshetref01_OfInt.f (wrap64 (a1 * a2))).bind fun bt180=>(some (bt180.1,bt180.2.1,bt180.2.2.1,bt180.2.2.2,0))))) else (if a1 = 0 then ((freshetref01_OfInt.f (wrap64 (a1 * a2))).bind fun bt184=>(some (bt184.1,bt184.2.1,bt184.2.2.1,bt184.2.2.2,0))) else ((freshetref01_OfInt.f (wrap64 (a1 * a2))).bind fun bt188=>(some (bt188.1,bt188.2.1,bt188.2.2.1,bt188.2.2.2,0)))))) else (if a2 = (-1) then (if a1 = (-9223372036854775808) then (some (0,0,0,(⟨#[]⟩ : ByteArray),11)) else (if a1 = 0 then ((freshetref01_OfInt.f (wrap64 (a1 * a2))).bind fun bt192=>(some (bt192.1,bt192.2.1,bt192.2.2.1,bt192.2.2.2,0))) else (if (wrap64 (Int.tdiv (wrap64 (a1 * a2)) a1)) = a2 then ((freshetref01_OfInt.f (wrap64 (a1 * a2))).bind fun bt196=>(some (bt196.1,bt196.2.1,bt196.2.2.1,bt196.2.2.2,0))) else (some (0,0,0,(⟨#[]⟩ : ByteArray),11))))) else (if a1 = 0 then ((freshetref01_OfInt.f (wrap64 (a1 * a2))).bind fun bt200=>(some (bt200.1,bt200.2.1,bt200.2.2.1,bt200.2.2.2,0))) else (if (wrap64 (Int.tdiv (wrap64 (a1 * a2)) a1)) = a2 then ((freshetref01_OfInt.f (wrap64 (a1 * a2))).bind fun bt204=>(some (bt204.1,bt204.2.1,bt204.2.2.1,bt204.2.2.2,0))) else (some (0,0,0,(⟨#[]⟩ : ByteArray),11)))))) else (if a2 = 0 then (some (0,0,0,(⟨#[]⟩ : ByteArray),10)) else (if a2 = (-1) then (if a0 = 14 then ((freshetref01_OfInt.f 0).bind fun bt208=>(some (bt208.1,bt208.2.1,bt208.2.2.1,bt208.2.2.2,0))) else (if a1 = (-9223372036854775808) then (some (0,0,0,(⟨#[]⟩ : ByteArray),11)) else ((freshetref01_OfInt.f (wrap64 (-a1))).bind fun bt212=>(some (bt212.1,bt212.2.1,bt212.2.2.1,bt212.2.2.2,0))))) else (if a0 = 13 then ((freshetref01_OfInt.f (wrap64 (Int.tdiv a1 a2))).bind fun bt216=>(some (bt216.1,bt216.2.1,bt216.2.2.1,bt216.2.2.2,0))) else ((freshetref01_OfInt.f (Int.tmod a1 a2)).bind fun bt220=>(some (bt220.1,bt220.2.1,bt220.2.2.1,bt220.2.2.2,0))))))))
set_option maxHeartbeats 8000000 in
set_option maxRecDepth 100000 in
theorem freshetref01_ints.calls (a0 : Int) (a1 : Int) (a2 : Int) (r1 : Int) (r2 : Int) (r3 : Int) (r4 : ByteArray) (r5 : Int) (w : World) (h : freshetref01_ints.f a0 a1 a2 = some (r1,r2,r3,r4,r5)) :
  Calls Tryz.prog 75 #[.int .i64 a0,.int .i64 a1,.int .i64 a2] w fun e w'=>e = .returned (.tuple #[.agg #[.int .i64 r1,.int .i64 r2,.int .u64 r3,.string r4],.int .i64 r5]) ∧ Below w.heap.size w w':=by
 have hu29:=Tryz.underlying29
 have HB:=Aside0.mk (Below.refl w.heap.size w)
 have H : (if a0 = 10 then (if a2 ≥ 0 then (if (wrap64 (a1 + a2)) < a1 then (some (0,0,0,(⟨#[]⟩ : ByteArray),11)) else (if a2 < 0 then (if (wrap64 (a1 + a2)) > a1 then (some (0,0,0,(⟨#[]⟩ : ByteArray),11)) else ((freshetref01_OfInt.f (wrap64 (a1 + a2))).bind fun bt144=>(some (bt144.1,bt144.2.1,bt144.2.2.1,bt144.2.2.2,0)))) else ((freshetref01_OfInt.f (wrap64 (a1 + a2))).bind fun bt148=>(some (bt148.1,bt148.2.1,bt148.2.2.1,bt148.2.2.2,0))))) else (if a2 < 0 then (if (wrap64 (a1 + a2)) > a1 then (some (0,0,0,(⟨#[]⟩ : ByteArray),11)) else ((freshetref01_OfInt.f (wrap64 (a1 + a2))).bind fun bt152=>(some (bt152.1,bt152.2.1,bt152.2.2.1,bt152.2.2.2,0)))) else ((freshetref01_OfInt.f (wrap64 (a1 + a2))).bind fun bt156=>(some (bt156.1,bt156.2.1,bt156.2.2.1,bt156.2.2.2,0))))) else (if a0 = 11 then (if a2 ≥ 0 then (if (wrap64 (a1 - a2)) > a1 then (some (0,0,0,(⟨#[]⟩ : ByteArray),11)) else (if a2 < 0 then (if (wrap64 (a1 - a2)) < a1 then (some (0,0,0,(⟨#[]⟩ : ByteArray),11)) else ((freshetref01_OfInt.f (wrap64 (a1 - a2))).bind fun bt160=>(some (bt160.1,bt160.2.1,bt160.2.2.1,bt160.2.2.2,0)))) else ((freshetref01_OfInt.f (wrap64 (a1 - a2))).bind fun bt164=>(some (bt164.1,bt164.2.1,bt164.2.2.1,bt164.2.2.2,0))))) else (if a2 < 0 then (if (wrap64 (a1 - a2)) < a1 then (some (0,0,0,(⟨#[]⟩ : ByteArray),11)) else ((freshetref01_OfInt.f (wrap64 (a1 - a2))).bind fun bt168=>(some (bt168.1,bt168.2.1,bt168.2.2.1,bt168.2.2.2,0)))) else ((freshetref01_OfInt.f (wrap64 (a1 - a2))).bind fun bt172=>(some (bt172.1,bt172.2.1,bt172.2.2.1,bt172.2.2.2,0))))) else (if a0 = 12 then (if a1 = (-1) then (if a2 = (-9223372036854775808) then (some (0,0,0,(⟨#[]⟩ : ByteArray),11)) else (if a2 = (-1) then (if a1 = (-9223372036854775808) then (some (0,0,0,(⟨#[]⟩ : ByteArray),11)) else (if a1 = 0 then ((freshetref01_OfInt.f (wrap64 (a1 * a2))).bind fun bt176=>(some (bt176.1,bt176.2.1,bt176.2.2.1,bt176.2.2.2,0))) else ((freshetref01_OfInt.f (wrap64 (a1 * a2))).bind fun bt180=>(some (bt180.1,bt180.2.1,bt180.2.2.1,bt180.2.2.2,0))))) else (if a1 = 0 then ((freshetref01_OfInt.f (wrap64 (a1 * a2))).bind fun bt184=>(some (bt184.1,bt184.2.1,bt184.2.2.1,bt184.2.2.2,0))) else ((freshetref01_OfInt.f (wrap64 (a1 * a2))).bind fun bt188=>(some (bt188.1,bt188.2.1,bt188.2.2.1,bt188.2.2.2,0)))))) else (if a2 = (-1) then (if a1 = (-9223372036854775808) then (some (0,0,0,(⟨#[]⟩ : ByteArray),11)) else (if a1 = 0 then ((freshetref01_OfInt.f (wrap64 (a1 * a2))).bind fun bt192=>(some (bt192.1,bt192.2.1,bt192.2.2.1,bt192.2.2.2,0))) else (if (wrap64 (Int.tdiv (wrap64 (a1 * a2)) a1)) = a2 then ((freshetref01_OfInt.f (wrap64 (a1 * a2))).bind fun bt196=>(some (bt196.1,bt196.2.1,bt196.2.2.1,bt196.2.2.2,0))) else (some (0,0,0,(⟨#[]⟩ : ByteArray),11))))) else (if a1 = 0 then ((freshetref01_OfInt.f (wrap64 (a1 * a2))).bind fun bt200=>(some (bt200.1,bt200.2.1,bt200.2.2.1,bt200.2.2.2,0))) else (if (wrap64 (Int.tdiv (wrap64 (a1 * a2)) a1)) = a2 then ((freshetref01_OfInt.f (wrap64 (a1 * a2))).bind fun bt204=>(some (bt204.1,bt204.2.1,bt204.2.2.1,bt204.2.2.2,0))) else (some (0,0,0,(⟨#[]⟩ : ByteArray),11)))))) else (if a2 = 0 then (some (0,0,0,(⟨#[]⟩ : ByteArray),10)) else (if a2 = (-1) then (if a0 = 14 then ((freshetref01_OfInt.f 0).bind fun bt208=>(some (bt208.1,bt208.2.1,bt208.2.2.1,bt208.2.2.2,0))) else (if a1 = (-9223372036854775808) then (some (0,0,0,(⟨#[]⟩ : ByteArray),11)) else ((freshetref01_OfInt.f (wrap64 (-a1))).bind fun bt212=>(some (bt212.1,bt212.2.1,bt212.2.2.1,bt212.2.2.2,0))))) else (if a0 = 13 then ((freshetref01_OfInt.f (wrap64 (Int.tdiv a1 a2))).bind fun bt216=>(some (bt216.1,bt216.2.1,bt216.2.2.1,bt216.2.2.2,0))) else ((freshetref01_OfInt.f (Int.tmod a1 a2)).bind fun bt220=>(some (bt220.1,bt220.2.1,bt220.2.2.1,bt220.2.2.2,0))))))))) = some (r1,r2,r3,r4,r5):=h
 clear h
 by_cases c4 : a0 = 10
 ·rw [if_pos c4] at H
  have c4b0 : (a0 == 10) = true:=beq_iff_eq.mpr c4
  have c4b1 : (a0 != 10) = false:=bne_eq_false_iff_eq.mpr c4
  clear c4
  by_cases c5 : a2 ≥ 0
  ·rw [if_pos c5] at H
   have c5b0 : decide (0 ≤ a2) = true:=decide_eq_true c5
   clear c5
   by_cases c6 : (wrap64 (a1 + a2)) < a1
   ·rw [if_pos c6] at H
    have c6b0 : decide ((wrap64 (a1 + a2)) < a1) = true:=decide_eq_true c6
    clear c6
    simp only [Option.some.injEq,Prod.mk.injEq] at H
    obtain ⟨rfl,rfl,rfl,rfl,rfl⟩:=H
    go_enter Tryz.func75,Tryz.ntmps75
    go_wp2_with (first | ((with_reducible refine gate_dst (N:=6) rfl ?_);refine box_event ?hg (N:=6) ?hd (cs:=#[.int .i64 0,.int .i64 0,.int .u64 0,.string (⟨#[]⟩ : ByteArray)]) (t:=29) ?hr ?_;(case hd=>rfl);(case hg=>rfl);(case hr=>first | (go_simp;done) | (go_simp;rfl));intro gb143 hg w7 hbox hb;have n0_:=Aside0.mk (below_step HB.out hb);have n1_:=Aside0.mk (hbox);have n2_:=Aside0.mk ((by rw [hg];exact (below_size HB.out) : w.heap.size ≤ gb143));have n3_:=Aside0.mk ((by rw [hg];exact (below_size HB.out) : w.heap.size ≤ gb143));clear HB;have HB:=n0_;have BK143:=n1_;have GW143:=n2_;have GE143:=n3_;clear n0_ n1_ n2_ n3_;clear hb hbox hg;obtain ⟨hcz8_0,hcz8_1,hcz8_2,hcz8_3,hfz8_0,hfz8_1,hfz8_2,hfz8_3⟩:=blk_all4 BK143.out))
    refine bodyPost_ret (results_ct rfl _ _ gb143 29 #[.int .i64 0,.int .i64 0,.int .u64 0,.string (⟨#[]⟩ : ByteArray)] (0,0) _ rfl (blk_puts4 BK143.out rfl) Tryz.underlying29 rfl (by kernel_rfl)) rfl ?_
    exact ⟨by first | rfl | (simp [errW_none,errW_some] <;> rfl) | (simp [*,errW_none,errW_some] <;> rfl),by repeat (first | (with_reducible first | exact HB.out | apply below_alloc | apply pw_below_drewN | apply below_drew1 | refine below_set ?_ GE143.out) | exact HB.out)⟩
   ·rw [if_neg c6] at H
    have c6b0 : decide ((wrap64 (a1 + a2)) < a1) = false:=decide_eq_false c6
    clear c6
    by_cases c9 : a2 < 0
    ·rw [if_pos c9] at H
     have c9b0 : decide (a2 < 0) = true:=decide_eq_true c9
     clear c9
     by_cases c10 : (wrap64 (a1 + a2)) > a1
     ·rw [if_pos c10] at H
      have c10b0 : decide (a1 < (wrap64 (a1 + a2))) = true:=decide_eq_true c10
      clear c10
      simp only [Option.some.injEq,Prod.mk.injEq] at H
      obtain ⟨rfl,rfl,rfl,rfl,rfl⟩:=H
      go_enter Tryz.func75,Tryz.ntmps75
      go_wp2_with (first | ((with_reducible refine gate_dst (N:=6) rfl ?_);refine box_event ?hg (N:=6) ?hd (cs:=#[.int .i64 0,.int .i64 0,.int .u64 0,.string (⟨#[]⟩ : ByteArray)]) (t:=29) ?hr ?_;(case hd=>rfl);(case hg=>rfl);(case hr=>first | (go_simp;done) | (go_simp;rfl));intro gb143 hg w11 hbox hb;have n0_:=Aside0.mk (below_step HB.out hb);have n1_:=Aside0.mk (hbox);have n2_:=Aside0.mk ((by rw [hg];exact (below_size HB.out) : w.heap.size ≤ gb143));have n3_:=Aside0.mk ((by rw [hg];exact (below_size HB.out) : w.heap.size ≤ gb143));clear HB;have HB:=n0_;have BK143:=n1_;have GW143:=n2_;have GE143:=n3_;clear n0_ n1_ n2_ n3_;clear hb hbox hg;obtain ⟨hcz12_0,hcz12_1,hcz12_2,hcz12_3,hfz12_0,hfz12_1,hfz12_2,hfz12_3⟩:=blk_all4 BK143.out))
      refine bodyPost_ret (results_ct rfl _ _ gb143 29 #[.int .i64 0,.int .i64 0,.int .u64 0,.string (⟨#[]⟩ : ByteArray)] (0,0) _ rfl (blk_puts4 BK143.out rfl) Tryz.underlying29 rfl (by kernel_rfl)) rfl ?_
      exact ⟨by first | rfl | (simp [errW_none,errW_some] <;> rfl) | (simp [*,errW_none,errW_some] <;> rfl),by repeat (first | (with_reducible first | exact HB.out | apply below_alloc | apply pw_below_drewN | apply below_drew1 | refine below_set ?_ GE143.out) | exact HB.out)⟩
     ·rw [if_neg c10] at H
      have c10b0 : decide (a1 < (wrap64 (a1 + a2))) = false:=decide_eq_false c10
      clear c10
      replace H:=Option.bind_eq_some_iff.mp H
      obtain ⟨⟨t144,t145,t146,t147⟩,A130,H⟩:=H
      replace H : (some (t144,t145,t146,t147,0)) = some (r1,r2,r3,r4,r5):=H
      have A13:=Aside0.mk A130
      clear A130
      simp only [Option.some.injEq,Prod.mk.injEq] at H
      obtain ⟨rfl,rfl,rfl,rfl,rfl⟩:=H
      go_enter Tryz.func75,Tryz.ntmps75
      go_wp2_with (first | ((with_reducible refine gate_dst (N:=6) rfl ?_);refine box_event ?hg (N:=6) ?hd (cs:=#[.int .i64 0,.int .i64 0,.int .u64 0,.string (⟨#[]⟩ : ByteArray)]) (t:=29) ?hr ?_;(case hd=>rfl);(case hg=>rfl);(case hr=>first | (go_simp;done) | (go_simp;rfl));intro gb143 hg w14 hbox hb;have n0_:=Aside0.mk (below_step HB.out hb);have n1_:=Aside0.mk (hbox);have n2_:=Aside0.mk ((by rw [hg];exact (below_size HB.out) : w.heap.size ≤ gb143));have n3_:=Aside0.mk ((by rw [hg];exact (below_size HB.out) : w.heap.size ≤ gb143));clear HB;have HB:=n0_;have BK143:=n1_;have GW143:=n2_;have GE143:=n3_;clear n0_ n1_ n2_ n3_;clear hb hbox hg) | (go_at_call 69;(with_reducible refine (freshetref01_OfInt.calls (wrap64 (a1 + a2)) t144 t145 t146 t147 _ A13.out).mono ?_);rintro e w15 ⟨rfl,hb⟩;have n0_:=Aside0.mk (blk_below BK143.out hb);have n1_:=Aside0.mk (below_step HB.out hb);clear BK143;clear HB;have BK143:=n0_;have HB:=n1_;clear n0_ n1_;(try clear hb);obtain ⟨hcz16_0,hcz16_1,hcz16_2,hcz16_3,hfz16_0,hfz16_1,hfz16_2,hfz16_3⟩:=blk_all4 BK143.out))
      refine bodyPost_ret (results_ct rfl _ _ gb143 29 #[.int .i64 t144,.int .i64 t145,.int .u64 t146,.string t147] (0,0) _ rfl (blk_puts4 BK143.out rfl) Tryz.underlying29 rfl (by kernel_rfl)) rfl ?_
      exact ⟨by first | rfl | (simp [errW_none,errW_some] <;> rfl) | (simp [*,errW_none,errW_some] <;> rfl),by repeat (first | (with_reducible first | exact HB.out | apply below_alloc | apply pw_below_drewN | apply below_drew1 | refine below_set ?_ GE143.out) | exact HB.out)⟩
    ·rw [if_neg c9] at H
     have c9b0 : decide (a2 < 0) = false:=decide_eq_false c9
     clear c9
     replace H:=Option.bind_eq_some_iff.mp H
     obtain ⟨⟨t148,t149,t150,t151⟩,A170,H⟩:=H
     replace H : (some (t148,t149,t150,t151,0)) = some (r1,r2,r3,r4,r5):=H
     have A17:=Aside0.mk A170
     clear A170
     simp only [Option.some.injEq,Prod.mk.injEq] at H
     obtain ⟨rfl,rfl,rfl,rfl,rfl⟩:=H
     go_enter Tryz.func75,Tryz.ntmps75
     go_wp2_with (first | ((with_reducible refine gate_dst (N:=6) rfl ?_);refine box_event ?hg (N:=6) ?hd (cs:=#[.int .i64 0,.int .i64 0,.int .u64 0,.string (⟨#[]⟩ : ByteArray)]) (t:=29) ?hr ?_;(case hd=>rfl);(case hg=>rfl);(case hr=>first | (go_simp;done) | (go_simp;rfl));intro gb143 hg w18 hbox hb;have n0_:=Aside0.mk (below_step HB.out hb);have n1_:=Aside0.mk (hbox);have n2_:=Aside0.mk ((by rw [hg];exact (below_size HB.out) : w.heap.size ≤ gb143));have n3_:=Aside0.mk ((by rw [hg];exact (below_size HB.out) : w.heap.size ≤ gb143));clear HB;have HB:=n0_;have BK143:=n1_;have GW143:=n2_;have GE143:=n3_;clear n0_ n1_ n2_ n3_;clear hb hbox hg) | (go_at_call 69;(with_reducible refine (freshetref01_OfInt.calls (wrap64 (a1 + a2)) t148 t149 t150 t151 _ A17.out).mono ?_);rintro e w19 ⟨rfl,hb⟩;have n0_:=Aside0.mk (blk_below BK143.out hb);have n1_:=Aside0.mk (below_step HB.out hb);clear BK143;clear HB;have BK143:=n0_;have HB:=n1_;clear n0_ n1_;(try clear hb);obtain ⟨hcz20_0,hcz20_1,hcz20_2,hcz20_3,hfz20_0,hfz20_1,hfz20_2,hfz20_3⟩:=blk_all4 BK143.out))
     refine bodyPost_ret (results_ct rfl _ _ gb143 29 #[.int .i64 t148,.int .i64 t149,.int .u64 t150,.string t151] (0,0) _ rfl (blk_puts4 BK143.out rfl) Tryz.underlying29 rfl (by kernel_rfl)) rfl ?_
     exact ⟨by first | rfl | (simp [errW_none,errW_some] <;> rfl) | (simp [*,errW_none,errW_some] <;> rfl),by repeat (first | (with_reducible first | exact HB.out | apply below_alloc | apply pw_below_drewN | apply below_drew1 | refine below_set ?_ GE143.out) | exact HB.out)⟩
  ·rw [if_neg c5] at H
   have c5b0 : decide (0 ≤ a2) = false:=decide_eq_false c5
   clear c5
   by_cases c21 : a2 < 0
   ·rw [if_pos c21] at H
    have c21b0 : decide (a2 < 0) = true:=decide_eq_true c21
    clear c21
    by_cases c22 : (wrap64 (a1 + a2)) > a1
    ·rw [if_pos c22] at H
     have c22b0 : decide (a1 < (wrap64 (a1 + a2))) = true:=decide_eq_true c22
     clear c22
     simp only [Option.some.injEq,Prod.mk.injEq] at H
     obtain ⟨rfl,rfl,rfl,rfl,rfl⟩:=H
     go_enter Tryz.func75,Tryz.ntmps75
     go_wp2_with (first | ((with_reducible refine gate_dst (N:=6) rfl ?_);refine box_event ?hg (N:=6) ?hd (cs:=#[.int .i64 0,.int .i64 0,.int .u64 0,.string (⟨#[]⟩ : ByteArray)]) (t:=29) ?hr ?_;(case hd=>rfl);(case hg=>rfl);(case hr=>first | (go_simp;done) | (go_simp;rfl));intro gb143 hg w23 hbox hb;have n0_:=Aside0.mk (below_step HB.out hb);have n1_:=Aside0.mk (hbox);have n2_:=Aside0.mk ((by rw [hg];exact (below_size HB.out) : w.heap.size ≤ gb143));have n3_:=Aside0.mk ((by rw [hg];exact (below_size HB.out) : w.heap.size ≤ gb143));clear HB;have HB:=n0_;have BK143:=n1_;have GW143:=n2_;have GE143:=n3_;clear n0_ n1_ n2_ n3_;clear hb hbox hg;obtain ⟨hcz24_0,hcz24_1,hcz24_2,hcz24_3,hfz24_0,hfz24_1,hfz24_2,hfz24_3⟩:=blk_all4 BK143.out))
     refine bodyPost_ret (results_ct rfl _ _ gb143 29 #[.int .i64 0,.int .i64 0,.int .u64 0,.string (⟨#[]⟩ : ByteArray)] (0,0) _ rfl (blk_puts4 BK143.out rfl) Tryz.underlying29 rfl (by kernel_rfl)) rfl ?_
     exact ⟨by first | rfl | (simp [errW_none,errW_some] <;> rfl) | (simp [*,errW_none,errW_some] <;> rfl),by repeat (first | (with_reducible first | exact HB.out | apply below_alloc | apply pw_below_drewN | apply below_drew1 | refine below_set ?_ GE143.out) | exact HB.out)⟩
    ·rw [if_neg c22] at H
     have c22b0 : decide (a1 < (wrap64 (a1 + a2))) = false:=decide_eq_false c22
     clear c22
     replace H:=Option.bind_eq_some_iff.mp H
     obtain ⟨⟨t152,t153,t154,t155⟩,A250,H⟩:=H
     replace H : (some (t152,t153,t154,t155,0)) = some (r1,r2,r3,r4,r5):=H
     have A25:=Aside0.mk A250
     clear A250
     simp only [Option.some.injEq,Prod.mk.injEq] at H
     obtain ⟨rfl,rfl,rfl,rfl,rfl⟩:=H
     go_enter Tryz.func75,Tryz.ntmps75
     go_wp2_with (first | ((with_reducible refine gate_dst (N:=6) rfl ?_);refine box_event ?hg (N:=6) ?hd (cs:=#[.int .i64 0,.int .i64 0,.int .u64 0,.string (⟨#[]⟩ : ByteArray)]) (t:=29) ?hr ?_;(case hd=>rfl);(case hg=>rfl);(case hr=>first | (go_simp;done) | (go_simp;rfl));intro gb143 hg w26 hbox hb;have n0_:=Aside0.mk (below_step HB.out hb);have n1_:=Aside0.mk (hbox);have n2_:=Aside0.mk ((by rw [hg];exact (below_size HB.out) : w.heap.size ≤ gb143));have n3_:=Aside0.mk ((by rw [hg];exact (below_size HB.out) : w.heap.size ≤ gb143));clear HB;have HB:=n0_;have BK143:=n1_;have GW143:=n2_;have GE143:=n3_;clear n0_ n1_ n2_ n3_;clear hb hbox hg) | (go_at_call 69;(with_reducible refine (freshetref01_OfInt.calls (wrap64 (a1 + a2)) t152 t153 t154 t155 _ A25.out).mono ?_);rintro e w27 ⟨rfl,hb⟩;have n0_:=Aside0.mk (blk_below BK143.out hb);have n1_:=Aside0.mk (below_step HB.out hb);clear BK143;clear HB;have BK143:=n0_;have HB:=n1_;clear n0_ n1_;(try clear hb);obtain ⟨hcz28_0,hcz28_1,hcz28_2,hcz28_3,hfz28_0,hfz28_1,hfz28_2,hfz28_3⟩:=blk_all4 BK143.out))
     refine bodyPost_ret (results_ct rfl _ _ gb143 29 #[.int .i64 t152,.int .i64 t153,.int .u64 t154,.string t155] (0,0) _ rfl (blk_puts4 BK143.out rfl) Tryz.underlying29 rfl (by kernel_rfl)) rfl ?_
     exact ⟨by first | rfl | (simp [errW_none,errW_some] <;> rfl) | (simp [*,errW_none,errW_some] <;> rfl),by repeat (first | (with_reducible first | exact HB.out | apply below_alloc | apply pw_below_drewN | apply below_drew1 | refine below_set ?_ GE143.out) | exact HB.out)⟩
   ·rw [if_neg c21] at H
    have c21b0 : decide (a2 < 0) = false:=decide_eq_false c21
    clear c21
    replace H:=Option.bind_eq_some_iff.mp H
    obtain ⟨⟨t156,t157,t158,t159⟩,A290,H⟩:=H
    replace H : (some (t156,t157,t158,t159,0)) = some (r1,r2,r3,r4,r5):=H
    have A29:=Aside0.mk A290
    clear A290
    simp only [Option.some.injEq,Prod.mk.injEq] at H
    obtain ⟨rfl,rfl,rfl,rfl,rfl⟩:=H
    go_enter Tryz.func75,Tryz.ntmps75
    go_wp2_with (first | ((with_reducible refine gate_dst (N:=6) rfl ?_);refine box_event ?hg (N:=6) ?hd (cs:=#[.int .i64 0,.int .i64 0,.int .u64 0,.string (⟨#[]⟩ : ByteArray)]) (t:=29) ?hr ?_;(case hd=>rfl);(case hg=>rfl);(case hr=>first | (go_simp;done) | (go_simp;rfl));intro gb143 hg w30 hbox hb;have n0_:=Aside0.mk (below_step HB.out hb);have n1_:=Aside0.mk (hbox);have n2_:=Aside0.mk ((by rw [hg];exact (below_size HB.out) : w.heap.size ≤ gb143));have n3_:=Aside0.mk ((by rw [hg];exact (below_size HB.out) : w.heap.size ≤ gb143));clear HB;have HB:=n0_;have BK143:=n1_;have GW143:=n2_;have GE143:=n3_;clear n0_ n1_ n2_ n3_;clear hb hbox hg) | (go_at_call 69;(with_reducible refine (freshetref01_OfInt.calls (wrap64 (a1 + a2)) t156 t157 t158 t159 _ A29.out).mono ?_);rintro e w31 ⟨rfl,hb⟩;have n0_:=Aside0.mk (blk_below BK143.out hb);have n1_:=Aside0.mk (below_step HB.out hb);clear BK143;clear HB;have BK143:=n0_;have HB:=n1_;clear n0_ n1_;(try clear hb);obtain ⟨hcz32_0,hcz32_1,hcz32_2,hcz32_3,hfz32_0,hfz32_1,hfz32_2,hfz32_3⟩:=blk_all4 BK143.out))
    refine bodyPost_ret (results_ct rfl _ _ gb143 29 #[.int .i64 t156,.int .i64 t157,.int .u64 t158,.string t159] (0,0) _ rfl (blk_puts4 BK143.out rfl) Tryz.underlying29 rfl (by kernel_rfl)) rfl ?_
    exact ⟨by first | rfl | (simp [errW_none,errW_some] <;> rfl) | (simp [*,errW_none,errW_some] <;> rfl),by repeat (first | (with_reducible first | exact HB.out | apply below_alloc | apply pw_below_drewN | apply below_drew1 | refine below_set ?_ GE143.out) | exact HB.out)⟩
 ·rw [if_neg c4] at H
  have c4b0 : (a0 == 10) = false:=beq_eq_false_iff_ne.mpr c4
  have c4b1 : (a0 != 10) = true:=bne_iff_ne.mpr c4
  by_cases c33 : a0 = 11
  ·rw [if_pos c33] at H
   have c33b0 : (a0 == 11) = true:=beq_iff_eq.mpr c33
   have c33b1 : (a0 != 11) = false:=bne_eq_false_iff_eq.mpr c33
   clear c33
   by_cases c34 : a2 ≥ 0
   ·rw [if_pos c34] at H
    have c34b0 : decide (0 ≤ a2) = true:=decide_eq_true c34
    clear c34
    by_cases c35 : (wrap64 (a1 - a2)) > a1
    ·rw [if_pos c35] at H
     have c35b0 : decide (a1 < (wrap64 (a1 - a2))) = true:=decide_eq_true c35
     clear c35
     simp only [Option.some.injEq,Prod.mk.injEq] at H
     obtain ⟨rfl,rfl,rfl,rfl,rfl⟩:=H
     go_enter Tryz.func75,Tryz.ntmps75
     go_wp2_with (first | ((with_reducible refine gate_dst (N:=6) rfl ?_);refine box_event ?hg (N:=6) ?hd (cs:=#[.int .i64 0,.int .i64 0,.int .u64 0,.string (⟨#[]⟩ : ByteArray)]) (t:=29) ?hr ?_;(case hd=>rfl);(case hg=>rfl);(case hr=>first | (go_simp;done) | (go_simp;rfl));intro gb143 hg w36 hbox hb;have n0_:=Aside0.mk (below_step HB.out hb);have n1_:=Aside0.mk (hbox);have n2_:=Aside0.mk ((by rw [hg];exact (below_size HB.out) : w.heap.size ≤ gb143));have n3_:=Aside0.mk ((by rw [hg];exact (below_size HB.out) : w.heap.size ≤ gb143));clear HB;have HB:=n0_;have BK143:=n1_;have GW143:=n2_;have GE143:=n3_;clear n0_ n1_ n2_ n3_;clear hb hbox hg;obtain ⟨hcz37_0,hcz37_1,hcz37_2,hcz37_3,hfz37_0,hfz37_1,hfz37_2,hfz37_3⟩:=blk_all4 BK143.out))
     refine bodyPost_ret (results_ct rfl _ _ gb143 29 #[.int .i64 0,.int .i64 0,.int .u64 0,.string (⟨#[]⟩ : ByteArray)] (0,0) _ rfl (blk_puts4 BK143.out rfl) Tryz.underlying29 rfl (by kernel_rfl)) rfl ?_
     exact ⟨by first | rfl | (simp [errW_none,errW_some] <;> rfl) | (simp [*,errW_none,errW_some] <;> rfl),by repeat (first | (with_reducible first | exact HB.out | apply below_alloc | apply pw_below_drewN | apply below_drew1 | refine below_set ?_ GE143.out) | exact HB.out)⟩
    ·rw [if_neg c35] at H
     have c35b0 : decide (a1 < (wrap64 (a1 - a2))) = false:=decide_eq_false c35
     clear c35
     by_cases c38 : a2 < 0
     ·rw [if_pos c38] at H
      have c38b0 : decide (a2 < 0) = true:=decide_eq_true c38
      clear c38
      by_cases c39 : (wrap64 (a1 - a2)) < a1
      ·rw [if_pos c39] at H
       have c39b0 : decide ((wrap64 (a1 - a2)) < a1) = true:=decide_eq_true c39
       clear c39
       simp only [Option.some.injEq,Prod.mk.injEq] at H
       obtain ⟨rfl,rfl,rfl,rfl,rfl⟩:=H
       go_enter Tryz.func75,Tryz.ntmps75
       go_wp2_with (first | ((with_reducible refine gate_dst (N:=6) rfl ?_);refine box_event ?hg (N:=6) ?hd (cs:=#[.int .i64 0,.int .i64 0,.int .u64 0,.string (⟨#[]⟩ : ByteArray)]) (t:=29) ?hr ?_;(case hd=>rfl);(case hg=>rfl);(case hr=>first | (go_simp;done) | (go_simp;rfl));intro gb143 hg w40 hbox hb;have n0_:=Aside0.mk (below_step HB.out hb);have n1_:=Aside0.mk (hbox);have n2_:=Aside0.mk ((by rw [hg];exact (below_size HB.out) : w.heap.size ≤ gb143));have n3_:=Aside0.mk ((by rw [hg];exact (below_size HB.out) : w.heap.size ≤ gb143));clear HB;have HB:=n0_;have BK143:=n1_;have GW143:=n2_;have GE143:=n3_;clear n0_ n1_ n2_ n3_;clear hb hbox hg;obtain ⟨hcz41_0,hcz41_1,hcz41_2,hcz41_3,hfz41_0,hfz41_1,hfz41_2,hfz41_3⟩:=blk_all4 BK143.out))
       refine bodyPost_ret (results_ct rfl _ _ gb143 29 #[.int .i64 0,.int .i64 0,.int .u64 0,.string (⟨#[]⟩ : ByteArray)] (0,0) _ rfl (blk_puts4 BK143.out rfl) Tryz.underlying29 rfl (by kernel_rfl)) rfl ?_
       exact ⟨by first | rfl | (simp [errW_none,errW_some] <;> rfl) | (simp [*,errW_none,errW_some] <;> rfl),by repeat (first | (with_reducible first | exact HB.out | apply below_alloc | apply pw_below_drewN | apply below_drew1 | refine below_set ?_ GE143.out) | exact HB.out)⟩
      ·rw [if_neg c39] at H
       have c39b0 : decide ((wrap64 (a1 - a2)) < a1) = false:=decide_eq_false c39
       clear c39
       replace H:=Option.bind_eq_some_iff.mp H
       obtain ⟨⟨t160,t161,t162,t163⟩,A420,H⟩:=H
       replace H : (some (t160,t161,t162,t163,0)) = some (r1,r2,r3,r4,r5):=H
       have A42:=Aside0.mk A420
       clear A420
       simp only [Option.some.injEq,Prod.mk.injEq] at H
       obtain ⟨rfl,rfl,rfl,rfl,rfl⟩:=H
       go_enter Tryz.func75,Tryz.ntmps75
       go_wp2_with (first | ((with_reducible refine gate_dst (N:=6) rfl ?_);refine box_event ?hg (N:=6) ?hd (cs:=#[.int .i64 0,.int .i64 0,.int .u64 0,.string (⟨#[]⟩ : ByteArray)]) (t:=29) ?hr ?_;(case hd=>rfl);(case hg=>rfl);(case hr=>first | (go_simp;done) | (go_simp;rfl));intro gb143 hg w43 hbox hb;have n0_:=Aside0.mk (below_step HB.out hb);have n1_:=Aside0.mk (hbox);have n2_:=Aside0.mk ((by rw [hg];exact (below_size HB.out) : w.heap.size ≤ gb143));have n3_:=Aside0.mk ((by rw [hg];exact (below_size HB.out) : w.heap.size ≤ gb143));clear HB;have HB:=n0_;have BK143:=n1_;have GW143:=n2_;have GE143:=n3_;clear n0_ n1_ n2_ n3_;clear hb hbox hg) | (go_at_call 69;(with_reducible refine (freshetref01_OfInt.calls (wrap64 (a1 - a2)) t160 t161 t162 t163 _ A42.out).mono ?_);rintro e w44 ⟨rfl,hb⟩;have n0_:=Aside0.mk (blk_below BK143.out hb);have n1_:=Aside0.mk (below_step HB.out hb);clear BK143;clear HB;have BK143:=n0_;have HB:=n1_;clear n0_ n1_;(try clear hb);obtain ⟨hcz45_0,hcz45_1,hcz45_2,hcz45_3,hfz45_0,hfz45_1,hfz45_2,hfz45_3⟩:=blk_all4 BK143.out))
       refine bodyPost_ret (results_ct rfl _ _ gb143 29 #[.int .i64 t160,.int .i64 t161,.int .u64 t162,.string t163] (0,0) _ rfl (blk_puts4 BK143.out rfl) Tryz.underlying29 rfl (by kernel_rfl)) rfl ?_
       exact ⟨by first | rfl | (simp [errW_none,errW_some] <;> rfl) | (simp [*,errW_none,errW_some] <;> rfl),by repeat (first | (with_reducible first | exact HB.out | apply below_alloc | apply pw_below_drewN | apply below_drew1 | refine below_set ?_ GE143.out) | exact HB.out)⟩
     ·rw [if_neg c38] at H
      have c38b0 : decide (a2 < 0) = false:=decide_eq_false c38
      clear c38
      replace H:=Option.bind_eq_some_iff.mp H
      obtain ⟨⟨t164,t165,t166,t167⟩,A460,H⟩:=H
      replace H : (some (t164,t165,t166,t167,0)) = some (r1,r2,r3,r4,r5):=H
      have A46:=Aside0.mk A460
      clear A460
      simp only [Option.some.injEq,Prod.mk.injEq] at H
      obtain ⟨rfl,rfl,rfl,rfl,rfl⟩:=H
      go_enter Tryz.func75,Tryz.ntmps75
      go_wp2_with (first | ((with_reducible refine gate_dst (N:=6) rfl ?_);refine box_event ?hg (N:=6) ?hd (cs:=#[.int .i64 0,.int .i64 0,.int .u64 0,.string (⟨#[]⟩ : ByteArray)]) (t:=29) ?hr ?_;(case hd=>rfl);(case hg=>rfl);(case hr=>first | (go_simp;done) | (go_simp;rfl));intro gb143 hg w47 hbox hb;have n0_:=Aside0.mk (below_step HB.out hb);have n1_:=Aside0.mk (hbox);have n2_:=Aside0.mk ((by rw [hg];exact (below_size HB.out) : w.heap.size ≤ gb143));have n3_:=Aside0.mk ((by rw [hg];exact (below_size HB.out) : w.heap.size ≤ gb143));clear HB;have HB:=n0_;have BK143:=n1_;have GW143:=n2_;have GE143:=n3_;clear n0_ n1_ n2_ n3_;clear hb hbox hg) | (go_at_call 69;(with_reducible refine (freshetref01_OfInt.calls (wrap64 (a1 - a2)) t164 t165 t166 t167 _ A46.out).mono ?_);rintro e w48 ⟨rfl,hb⟩;have n0_:=Aside0.mk (blk_below BK143.out hb);have n1_:=Aside0.mk (below_step HB.out hb);clear BK143;clear HB;have BK143:=n0_;have HB:=n1_;clear n0_ n1_;(try clear hb);obtain ⟨hcz49_0,hcz49_1,hcz49_2,hcz49_3,hfz49_0,hfz49_1,hfz49_2,hfz49_3⟩:=blk_all4 BK143.out))
      refine bodyPost_ret (results_ct rfl _ _ gb143 29 #[.int .i64 t164,.int .i64 t165,.int .u64 t166,.string t167] (0,0) _ rfl (blk_puts4 BK143.out rfl) Tryz.underlying29 rfl (by kernel_rfl)) rfl ?_
      exact ⟨by first | rfl | (simp [errW_none,errW_some] <;> rfl) | (simp [*,errW_none,errW_some] <;> rfl),by repeat (first | (with_reducible first | exact HB.out | apply below_alloc | apply pw_below_drewN | apply below_drew1 | refine below_set ?_ GE143.out) | exact HB.out)⟩
   ·rw [if_neg c34] at H
    have c34b0 : decide (0 ≤ a2) = false:=decide_eq_false c34
    clear c34
    by_cases c50 : a2 < 0
    ·rw [if_pos c50] at H
     have c50b0 : decide (a2 < 0) = true:=decide_eq_true c50
     clear c50
     by_cases c51 : (wrap64 (a1 - a2)) < a1
     ·rw [if_pos c51] at H
      have c51b0 : decide ((wrap64 (a1 - a2)) < a1) = true:=decide_eq_true c51
      clear c51
      simp only [Option.some.injEq,Prod.mk.injEq] at H
      obtain ⟨rfl,rfl,rfl,rfl,rfl⟩:=H
      go_enter Tryz.func75,Tryz.ntmps75
      go_wp2_with (first | ((with_reducible refine gate_dst (N:=6) rfl ?_);refine box_event ?hg (N:=6) ?hd (cs:=#[.int .i64 0,.int .i64 0,.int .u64 0,.string (⟨#[]⟩ : ByteArray)]) (t:=29) ?hr ?_;(case hd=>rfl);(case hg=>rfl);(case hr=>first | (go_simp;done) | (go_simp;rfl));intro gb143 hg w52 hbox hb;have n0_:=Aside0.mk (below_step HB.out hb);have n1_:=Aside0.mk (hbox);have n2_:=Aside0.mk ((by rw [hg];exact (below_size HB.out) : w.heap.size ≤ gb143));have n3_:=Aside0.mk ((by rw [hg];exact (below_size HB.out) : w.heap.size ≤ gb143));clear HB;have HB:=n0_;have BK143:=n1_;have GW143:=n2_;have GE143:=n3_;clear n0_ n1_ n2_ n3_;clear hb hbox hg;obtain ⟨hcz53_0,hcz53_1,hcz53_2,hcz53_3,hfz53_0,hfz53_1,hfz53_2,hfz53_3⟩:=blk_all4 BK143.out))
      refine bodyPost_ret (results_ct rfl _ _ gb143 29 #[.int .i64 0,.int .i64 0,.int .u64 0,.string (⟨#[]⟩ : ByteArray)] (0,0) _ rfl (blk_puts4 BK143.out rfl) Tryz.underlying29 rfl (by kernel_rfl)) rfl ?_
      exact ⟨by first | rfl | (simp [errW_none,errW_some] <;> rfl) | (simp [*,errW_none,errW_some] <;> rfl),by repeat (first | (with_reducible first | exact HB.out | apply below_alloc | apply pw_below_drewN | apply below_drew1 | refine below_set ?_ GE143.out) | exact HB.out)⟩
     ·rw [if_neg c51] at H
      have c51b0 : decide ((wrap64 (a1 - a2)) < a1) = false:=decide_eq_false c51
      clear c51
      replace H:=Option.bind_eq_some_iff.mp H
      obtain ⟨⟨t168,t169,t170,t171⟩,A540,H⟩:=H
      replace H : (some (t168,t169,t170,t171,0)) = some (r1,r2,r3,r4,r5):=H
      have A54:=Aside0.mk A540
      clear A540
      simp only [Option.some.injEq,Prod.mk.injEq] at H
      obtain ⟨rfl,rfl,rfl,rfl,rfl⟩:=H
      go_enter Tryz.func75,Tryz.ntmps75
      go_wp2_with (first | ((with_reducible refine gate_dst (N:=6) rfl ?_);refine box_event ?hg (N:=6) ?hd (cs:=#[.int .i64 0,.int .i64 0,.int .u64 0,.string (⟨#[]⟩ : ByteArray)]) (t:=29) ?hr ?_;(case hd=>rfl);(case hg=>rfl);(case hr=>first | (go_simp;done) | (go_simp;rfl));intro gb143 hg w55 hbox hb;have n0_:=Aside0.mk (below_step HB.out hb);have n1_:=Aside0.mk (hbox);have n2_:=Aside0.mk ((by rw [hg];exact (below_size HB.out) : w.heap.size ≤ gb143));have n3_:=Aside0.mk ((by rw [hg];exact (below_size HB.out) : w.heap.size ≤ gb143));clear HB;have HB:=n0_;have BK143:=n1_;have GW143:=n2_;have GE143:=n3_;clear n0_ n1_ n2_ n3_;clear hb hbox hg) | (go_at_call 69;(with_reducible refine (freshetref01_OfInt.calls (wrap64 (a1 - a2)) t168 t169 t170 t171 _ A54.out).mono ?_);rintro e w56 ⟨rfl,hb⟩;have n0_:=Aside0.mk (blk_below BK143.out hb);have n1_:=Aside0.mk (below_step HB.out hb);clear BK143;clear HB;have BK143:=n0_;have HB:=n1_;clear n0_ n1_;(try clear hb);obtain ⟨hcz57_0,hcz57_1,hcz57_2,hcz57_3,hfz57_0,hfz57_1,hfz57_2,hfz57_3⟩:=blk_all4 BK143.out))
      refine bodyPost_ret (results_ct rfl _ _ gb143 29 #[.int .i64 t168,.int .i64 t169,.int .u64 t170,.string t171] (0,0) _ rfl (blk_puts4 BK143.out rfl) Tryz.underlying29 rfl (by kernel_rfl)) rfl ?_
      exact ⟨by first | rfl | (simp [errW_none,errW_some] <;> rfl) | (simp [*,errW_none,errW_some] <;> rfl),by repeat (first | (with_reducible first | exact HB.out | apply below_alloc | apply pw_below_drewN | apply below_drew1 | refine below_set ?_ GE143.out) | exact HB.out)⟩
    ·rw [if_neg c50] at H
     have c50b0 : decide (a2 < 0) = false:=decide_eq_false c50
     clear c50
     replace H:=Option.bind_eq_some_iff.mp H
     obtain ⟨⟨t172,t173,t174,t175⟩,A580,H⟩:=H
     replace H : (some (t172,t173,t174,t175,0)) = some (r1,r2,r3,r4,r5):=H
     have A58:=Aside0.mk A580
     clear A580
     simp only [Option.some.injEq,Prod.mk.injEq] at H
     obtain ⟨rfl,rfl,rfl,rfl,rfl⟩:=H
     go_enter Tryz.func75,Tryz.ntmps75
     go_wp2_with (first | ((with_reducible refine gate_dst (N:=6) rfl ?_);refine box_event ?hg (N:=6) ?hd (cs:=#[.int .i64 0,.int .i64 0,.int .u64 0,.string (⟨#[]⟩ : ByteArray)]) (t:=29) ?hr ?_;(case hd=>rfl);(case hg=>rfl);(case hr=>first | (go_simp;done) | (go_simp;rfl));intro gb143 hg w59 hbox hb;have n0_:=Aside0.mk (below_step HB.out hb);have n1_:=Aside0.mk (hbox);have n2_:=Aside0.mk ((by rw [hg];exact (below_size HB.out) : w.heap.size ≤ gb143));have n3_:=Aside0.mk ((by rw [hg];exact (below_size HB.out) : w.heap.size ≤ gb143));clear HB;have HB:=n0_;have BK143:=n1_;have GW143:=n2_;have GE143:=n3_;clear n0_ n1_ n2_ n3_;clear hb hbox hg) | (go_at_call 69;(with_reducible refine (freshetref01_OfInt.calls (wrap64 (a1 - a2)) t172 t173 t174 t175 _ A58.out).mono ?_);rintro e w60 ⟨rfl,hb⟩;have n0_:=Aside0.mk (blk_below BK143.out hb);have n1_:=Aside0.mk (below_step HB.out hb);clear BK143;clear HB;have BK143:=n0_;have HB:=n1_;clear n0_ n1_;(try clear hb);obtain ⟨hcz61_0,hcz61_1,hcz61_2,hcz61_3,hfz61_0,hfz61_1,hfz61_2,hfz61_3⟩:=blk_all4 BK143.out))
     refine bodyPost_ret (results_ct rfl _ _ gb143 29 #[.int .i64 t172,.int .i64 t173,.int .u64 t174,.string t175] (0,0) _ rfl (blk_puts4 BK143.out rfl) Tryz.underlying29 rfl (by kernel_rfl)) rfl ?_
     exact ⟨by first | rfl | (simp [errW_none,errW_some] <;> rfl) | (simp [*,errW_none,errW_some] <;> rfl),by repeat (first | (with_reducible first | exact HB.out | apply below_alloc | apply pw_below_drewN | apply below_drew1 | refine below_set ?_ GE143.out) | exact HB.out)⟩
  ·rw [if_neg c33] at H
   have c33b0 : (a0 == 11) = false:=beq_eq_false_iff_ne.mpr c33
   have c33b1 : (a0 != 11) = true:=bne_iff_ne.mpr c33
   by_cases c62 : a0 = 12
   ·rw [if_pos c62] at H
    have c62b0 : (a0 == 12) = true:=beq_iff_eq.mpr c62
    have c62b1 : (a0 != 12) = false:=bne_eq_false_iff_eq.mpr c62
    clear c62
    by_cases c63 : a1 = (-1)
    ·rw [if_pos c63] at H
     have c63b0 : (a1 == (-1)) = true:=beq_iff_eq.mpr c63
     have c63b1 : (a1 != (-1)) = false:=bne_eq_false_iff_eq.mpr c63
     clear c63
     by_cases c64 : a2 = (-9223372036854775808)
     ·rw [if_pos c64] at H
      have c64b0 : (a2 == (-9223372036854775808)) = true:=beq_iff_eq.mpr c64
      have c64b1 : (a2 != (-9223372036854775808)) = false:=bne_eq_false_iff_eq.mpr c64
      clear c64
      simp only [Option.some.injEq,Prod.mk.injEq] at H
      obtain ⟨rfl,rfl,rfl,rfl,rfl⟩:=H
      go_enter Tryz.func75,Tryz.ntmps75
      go_wp2_with (first | ((with_reducible refine gate_dst (N:=6) rfl ?_);refine box_event ?hg (N:=6) ?hd (cs:=#[.int .i64 0,.int .i64 0,.int .u64 0,.string (⟨#[]⟩ : ByteArray)]) (t:=29) ?hr ?_;(case hd=>rfl);(case hg=>rfl);(case hr=>first | (go_simp;done) | (go_simp;rfl));intro gb143 hg w65 hbox hb;have n0_:=Aside0.mk (below_step HB.out hb);have n1_:=Aside0.mk (hbox);have n2_:=Aside0.mk ((by rw [hg];exact (below_size HB.out) : w.heap.size ≤ gb143));have n3_:=Aside0.mk ((by rw [hg];exact (below_size HB.out) : w.heap.size ≤ gb143));clear HB;have HB:=n0_;have BK143:=n1_;have GW143:=n2_;have GE143:=n3_;clear n0_ n1_ n2_ n3_;clear hb hbox hg;obtain ⟨hcz66_0,hcz66_1,hcz66_2,hcz66_3,hfz66_0,hfz66_1,hfz66_2,hfz66_3⟩:=blk_all4 BK143.out))
      refine bodyPost_ret (results_ct rfl _ _ gb143 29 #[.int .i64 0,.int .i64 0,.int .u64 0,.string (⟨#[]⟩ : ByteArray)] (0,0) _ rfl (blk_puts4 BK143.out rfl) Tryz.underlying29 rfl (by kernel_rfl)) rfl ?_
      exact ⟨by first | rfl | (simp [errW_none,errW_some] <;> rfl) | (simp [*,errW_none,errW_some] <;> rfl),by repeat (first | (with_reducible first | exact HB.out | apply below_alloc | apply pw_below_drewN | apply below_drew1 | refine below_set ?_ GE143.out) | exact HB.out)⟩
     ·rw [if_neg c64] at H
      have c64b0 : (a2 == (-9223372036854775808)) = false:=beq_eq_false_iff_ne.mpr c64
      have c64b1 : (a2 != (-9223372036854775808)) = true:=bne_iff_ne.mpr c64
      by_cases c67 : a2 = (-1)
      ·rw [if_pos c67] at H
       have c67b0 : (a2 == (-1)) = true:=beq_iff_eq.mpr c67
       have c67b1 : (a2 != (-1)) = false:=bne_eq_false_iff_eq.mpr c67
       clear c67
       by_cases c68 : a1 = (-9223372036854775808)
       ·rw [if_pos c68] at H
        have c68b0 : (a1 == (-9223372036854775808)) = true:=beq_iff_eq.mpr c68
        have c68b1 : (a1 != (-9223372036854775808)) = false:=bne_eq_false_iff_eq.mpr c68
        clear c68
        simp only [Option.some.injEq,Prod.mk.injEq] at H
        obtain ⟨rfl,rfl,rfl,rfl,rfl⟩:=H
        go_enter Tryz.func75,Tryz.ntmps75
        go_wp2_with (first | ((with_reducible refine gate_dst (N:=6) rfl ?_);refine box_event ?hg (N:=6) ?hd (cs:=#[.int .i64 0,.int .i64 0,.int .u64 0,.string (⟨#[]⟩ : ByteArray)]) (t:=29) ?hr ?_;(case hd=>rfl);(case hg=>rfl);(case hr=>first | (go_simp;done) | (go_simp;rfl));intro gb143 hg w69 hbox hb;have n0_:=Aside0.mk (below_step HB.out hb);have n1_:=Aside0.mk (hbox);have n2_:=Aside0.mk ((by rw [hg];exact (below_size HB.out) : w.heap.size ≤ gb143));have n3_:=Aside0.mk ((by rw [hg];exact (below_size HB.out) : w.heap.size ≤ gb143));clear HB;have HB:=n0_;have BK143:=n1_;have GW143:=n2_;have GE143:=n3_;clear n0_ n1_ n2_ n3_;clear hb hbox hg;obtain ⟨hcz70_0,hcz70_1,hcz70_2,hcz70_3,hfz70_0,hfz70_1,hfz70_2,hfz70_3⟩:=blk_all4 BK143.out))
        refine bodyPost_ret (results_ct rfl _ _ gb143 29 #[.int .i64 0,.int .i64 0,.int .u64 0,.string (⟨#[]⟩ : ByteArray)] (0,0) _ rfl (blk_puts4 BK143.out rfl) Tryz.underlying29 rfl (by kernel_rfl)) rfl ?_
        exact ⟨by first | rfl | (simp [errW_none,errW_some] <;> rfl) | (simp [*,errW_none,errW_some] <;> rfl),by repeat (first | (with_reducible first | exact HB.out | apply below_alloc | apply pw_below_drewN | apply below_drew1 | refine below_set ?_ GE143.out) | exact HB.out)⟩
       ·rw [if_neg c68] at H
        have c68b0 : (a1 == (-9223372036854775808)) = false:=beq_eq_false_iff_ne.mpr c68
        have c68b1 : (a1 != (-9223372036854775808)) = true:=bne_iff_ne.mpr c68
        by_cases c71 : a1 = 0
        ·rw [if_pos c71] at H
         have c71b0 : (a1 == 0) = true:=beq_iff_eq.mpr c71
         have c71b1 : (a1 != 0) = false:=bne_eq_false_iff_eq.mpr c71
         clear c71
         replace H:=Option.bind_eq_some_iff.mp H
         obtain ⟨⟨t176,t177,t178,t179⟩,A720,H⟩:=H
         replace H : (some (t176,t177,t178,t179,0)) = some (r1,r2,r3,r4,r5):=H
         have A72:=Aside0.mk A720
         clear A720
         simp only [Option.some.injEq,Prod.mk.injEq] at H
         obtain ⟨rfl,rfl,rfl,rfl,rfl⟩:=H
         go_enter Tryz.func75,Tryz.ntmps75
         go_wp2_with (first | ((with_reducible refine gate_dst (N:=6) rfl ?_);refine box_event ?hg (N:=6) ?hd (cs:=#[.int .i64 0,.int .i64 0,.int .u64 0,.string (⟨#[]⟩ : ByteArray)]) (t:=29) ?hr ?_;(case hd=>rfl);(case hg=>rfl);(case hr=>first | (go_simp;done) | (go_simp;rfl));intro gb143 hg w73 hbox hb;have n0_:=Aside0.mk (below_step HB.out hb);have n1_:=Aside0.mk (hbox);have n2_:=Aside0.mk ((by rw [hg];exact (below_size HB.out) : w.heap.size ≤ gb143));have n3_:=Aside0.mk ((by rw [hg];exact (below_size HB.out) : w.heap.size ≤ gb143));clear HB;have HB:=n0_;have BK143:=n1_;have GW143:=n2_;have GE143:=n3_;clear n0_ n1_ n2_ n3_;clear hb hbox hg) | (go_at_call 69;(with_reducible refine (freshetref01_OfInt.calls (wrap64 (a1 * a2)) t176 t177 t178 t179 _ A72.out).mono ?_);rintro e w74 ⟨rfl,hb⟩;have n0_:=Aside0.mk (blk_below BK143.out hb);have n1_:=Aside0.mk (below_step HB.out hb);clear BK143;clear HB;have BK143:=n0_;have HB:=n1_;clear n0_ n1_;(try clear hb);obtain ⟨hcz75_0,hcz75_1,hcz75_2,hcz75_3,hfz75_0,hfz75_1,hfz75_2,hfz75_3⟩:=blk_all4 BK143.out))
         refine bodyPost_ret (results_ct rfl _ _ gb143 29 #[.int .i64 t176,.int .i64 t177,.int .u64 t178,.string t179] (0,0) _ rfl (blk_puts4 BK143.out rfl) Tryz.underlying29 rfl (by kernel_rfl)) rfl ?_
         exact ⟨by first | rfl | (simp [errW_none,errW_some] <;> rfl) | (simp [*,errW_none,errW_some] <;> rfl),by repeat (first | (with_reducible first | exact HB.out | apply below_alloc | apply pw_below_drewN | apply below_drew1 | refine below_set ?_ GE143.out) | exact HB.out)⟩
        ·rw [if_neg c71] at H
         have c71b0 : (a1 == 0) = false:=beq_eq_false_iff_ne.mpr c71
         have c71b1 : (a1 != 0) = true:=bne_iff_ne.mpr c71
         replace H:=Option.bind_eq_some_iff.mp H
         obtain ⟨⟨t180,t181,t182,t183⟩,A760,H⟩:=H
         replace H : (some (t180,t181,t182,t183,0)) = some (r1,r2,r3,r4,r5):=H
         have A76:=Aside0.mk A760
         clear A760
         simp only [Option.some.injEq,Prod.mk.injEq] at H
         obtain ⟨rfl,rfl,rfl,rfl,rfl⟩:=H
         go_enter Tryz.func75,Tryz.ntmps75
         go_wp2_with (first | ((with_reducible refine gate_dst (N:=6) rfl ?_);refine box_event ?hg (N:=6) ?hd (cs:=#[.int .i64 0,.int .i64 0,.int .u64 0,.string (⟨#[]⟩ : ByteArray)]) (t:=29) ?hr ?_;(case hd=>rfl);(case hg=>rfl);(case hr=>first | (go_simp;done) | (go_simp;rfl));intro gb143 hg w77 hbox hb;have n0_:=Aside0.mk (below_step HB.out hb);have n1_:=Aside0.mk (hbox);have n2_:=Aside0.mk ((by rw [hg];exact (below_size HB.out) : w.heap.size ≤ gb143));have n3_:=Aside0.mk ((by rw [hg];exact (below_size HB.out) : w.heap.size ≤ gb143));clear HB;have HB:=n0_;have BK143:=n1_;have GW143:=n2_;have GE143:=n3_;clear n0_ n1_ n2_ n3_;clear hb hbox hg) | (go_at_call 69;(with_reducible refine (freshetref01_OfInt.calls (wrap64 (a1 * a2)) t180 t181 t182 t183 _ A76.out).mono ?_);rintro e w78 ⟨rfl,hb⟩;have n0_:=Aside0.mk (blk_below BK143.out hb);have n1_:=Aside0.mk (below_step HB.out hb);clear BK143;clear HB;have BK143:=n0_;have HB:=n1_;clear n0_ n1_;(try clear hb);obtain ⟨hcz79_0,hcz79_1,hcz79_2,hcz79_3,hfz79_0,hfz79_1,hfz79_2,hfz79_3⟩:=blk_all4 BK143.out))
         refine bodyPost_ret (results_ct rfl _ _ gb143 29 #[.int .i64 t180,.int .i64 t181,.int .u64 t182,.string t183] (0,0) _ rfl (blk_puts4 BK143.out rfl) Tryz.underlying29 rfl (by kernel_rfl)) rfl ?_
         exact ⟨by first | rfl | (simp [errW_none,errW_some] <;> rfl) | (simp [*,errW_none,errW_some] <;> rfl),by repeat (first | (with_reducible first | exact HB.out | apply below_alloc | apply pw_below_drewN | apply below_drew1 | refine below_set ?_ GE143.out) | exact HB.out)⟩
      ·rw [if_neg c67] at H
       have c67b0 : (a2 == (-1)) = false:=beq_eq_false_iff_ne.mpr c67
       have c67b1 : (a2 != (-1)) = true:=bne_iff_ne.mpr c67
       by_cases c80 : a1 = 0
       ·rw [if_pos c80] at H
        have c80b0 : (a1 == 0) = true:=beq_iff_eq.mpr c80
        have c80b1 : (a1 != 0) = false:=bne_eq_false_iff_eq.mpr c80
        clear c80
        replace H:=Option.bind_eq_some_iff.mp H
        obtain ⟨⟨t184,t185,t186,t187⟩,A810,H⟩:=H
        replace H : (some (t184,t185,t186,t187,0)) = some (r1,r2,r3,r4,r5):=H
        have A81:=Aside0.mk A810
        clear A810
        simp only [Option.some.injEq,Prod.mk.injEq] at H
        obtain ⟨rfl,rfl,rfl,rfl,rfl⟩:=H
        go_enter Tryz.func75,Tryz.ntmps75
        go_wp2_with (first | ((with_reducible refine gate_dst (N:=6) rfl ?_);refine box_event ?hg (N:=6) ?hd (cs:=#[.int .i64 0,.int .i64 0,.int .u64 0,.string (⟨#[]⟩ : ByteArray)]) (t:=29) ?hr ?_;(case hd=>rfl);(case hg=>rfl);(case hr=>first | (go_simp;done) | (go_simp;rfl));intro gb143 hg w82 hbox hb;have n0_:=Aside0.mk (below_step HB.out hb);have n1_:=Aside0.mk (hbox);have n2_:=Aside0.mk ((by rw [hg];exact (below_size HB.out) : w.heap.size ≤ gb143));have n3_:=Aside0.mk ((by rw [hg];exact (below_size HB.out) : w.heap.size ≤ gb143));clear HB;have HB:=n0_;have BK143:=n1_;have GW143:=n2_;have GE143:=n3_;clear n0_ n1_ n2_ n3_;clear hb hbox hg) | (go_at_call 69;(with_reducible refine (freshetref01_OfInt.calls (wrap64 (a1 * a2)) t184 t185 t186 t187 _ A81.out).mono ?_);rintro e w83 ⟨rfl,hb⟩;have n0_:=Aside0.mk (blk_below BK143.out hb);have n1_:=Aside0.mk (below_step HB.out hb);clear BK143;clear HB;have BK143:=n0_;have HB:=n1_;clear n0_ n1_;(try clear hb);obtain ⟨hcz84_0,hcz84_1,hcz84_2,hcz84_3,hfz84_0,hfz84_1,hfz84_2,hfz84_3⟩:=blk_all4 BK143.out))
        refine bodyPost_ret (results_ct rfl _ _ gb143 29 #[.int .i64 t184,.int .i64 t185,.int .u64 t186,.string t187] (0,0) _ rfl (blk_puts4 BK143.out rfl) Tryz.underlying29 rfl (by kernel_rfl)) rfl ?_
        exact ⟨by first | rfl | (simp [errW_none,errW_some] <;> rfl) | (simp [*,errW_none,errW_some] <;> rfl),by repeat (first | (with_reducible first | exact HB.out | apply below_alloc | apply pw_below_drewN | apply below_drew1 | refine below_set ?_ GE143.out) | exact HB.out)⟩
       ·rw [if_neg c80] at H
        have c80b0 : (a1 == 0) = false:=beq_eq_false_iff_ne.mpr c80
        have c80b1 : (a1 != 0) = true:=bne_iff_ne.mpr c80
        replace H:=Option.bind_eq_some_iff.mp H
        obtain ⟨⟨t188,t189,t190,t191⟩,A850,H⟩:=H
        replace H : (some (t188,t189,t190,t191,0)) = some (r1,r2,r3,r4,r5):=H
        have A85:=Aside0.mk A850
        clear A850
        simp only [Option.some.injEq,Prod.mk.injEq] at H
        obtain ⟨rfl,rfl,rfl,rfl,rfl⟩:=H
        go_enter Tryz.func75,Tryz.ntmps75
        go_wp2_with (first | ((with_reducible refine gate_dst (N:=6) rfl ?_);refine box_event ?hg (N:=6) ?hd (cs:=#[.int .i64 0,.int .i64 0,.int .u64 0,.string (⟨#[]⟩ : ByteArray)]) (t:=29) ?hr ?_;(case hd=>rfl);(case hg=>rfl);(case hr=>first | (go_simp;done) | (go_simp;rfl));intro gb143 hg w86 hbox hb;have n0_:=Aside0.mk (below_step HB.out hb);have n1_:=Aside0.mk (hbox);have n2_:=Aside0.mk ((by rw [hg];exact (below_size HB.out) : w.heap.size ≤ gb143));have n3_:=Aside0.mk ((by rw [hg];exact (below_size HB.out) : w.heap.size ≤ gb143));clear HB;have HB:=n0_;have BK143:=n1_;have GW143:=n2_;have GE143:=n3_;clear n0_ n1_ n2_ n3_;clear hb hbox hg) | (go_at_call 69;(with_reducible refine (freshetref01_OfInt.calls (wrap64 (a1 * a2)) t188 t189 t190 t191 _ A85.out).mono ?_);rintro e w87 ⟨rfl,hb⟩;have n0_:=Aside0.mk (blk_below BK143.out hb);have n1_:=Aside0.mk (below_step HB.out hb);clear BK143;clear HB;have BK143:=n0_;have HB:=n1_;clear n0_ n1_;(try clear hb);obtain ⟨hcz88_0,hcz88_1,hcz88_2,hcz88_3,hfz88_0,hfz88_1,hfz88_2,hfz88_3⟩:=blk_all4 BK143.out))
        refine bodyPost_ret (results_ct rfl _ _ gb143 29 #[.int .i64 t188,.int .i64 t189,.int .u64 t190,.string t191] (0,0) _ rfl (blk_puts4 BK143.out rfl) Tryz.underlying29 rfl (by kernel_rfl)) rfl ?_
        exact ⟨by first | rfl | (simp [errW_none,errW_some] <;> rfl) | (simp [*,errW_none,errW_some] <;> rfl),by repeat (first | (with_reducible first | exact HB.out | apply below_alloc | apply pw_below_drewN | apply below_drew1 | refine below_set ?_ GE143.out) | exact HB.out)⟩
    ·rw [if_neg c63] at H
     have c63b0 : (a1 == (-1)) = false:=beq_eq_false_iff_ne.mpr c63
     have c63b1 : (a1 != (-1)) = true:=bne_iff_ne.mpr c63
     by_cases c89 : a2 = (-1)
     ·rw [if_pos c89] at H
      have c89b0 : (a2 == (-1)) = true:=beq_iff_eq.mpr c89
      have c89b1 : (a2 != (-1)) = false:=bne_eq_false_iff_eq.mpr c89
      clear c89
      by_cases c90 : a1 = (-9223372036854775808)
      ·rw [if_pos c90] at H
       have c90b0 : (a1 == (-9223372036854775808)) = true:=beq_iff_eq.mpr c90
       have c90b1 : (a1 != (-9223372036854775808)) = false:=bne_eq_false_iff_eq.mpr c90
       clear c90
       simp only [Option.some.injEq,Prod.mk.injEq] at H
       obtain ⟨rfl,rfl,rfl,rfl,rfl⟩:=H
       go_enter Tryz.func75,Tryz.ntmps75
       go_wp2_with (first | ((with_reducible refine gate_dst (N:=6) rfl ?_);refine box_event ?hg (N:=6) ?hd (cs:=#[.int .i64 0,.int .i64 0,.int .u64 0,.string (⟨#[]⟩ : ByteArray)]) (t:=29) ?hr ?_;(case hd=>rfl);(case hg=>rfl);(case hr=>first | (go_simp;done) | (go_simp;rfl));intro gb143 hg w91 hbox hb;have n0_:=Aside0.mk (below_step HB.out hb);have n1_:=Aside0.mk (hbox);have n2_:=Aside0.mk ((by rw [hg];exact (below_size HB.out) : w.heap.size ≤ gb143));have n3_:=Aside0.mk ((by rw [hg];exact (below_size HB.out) : w.heap.size ≤ gb143));clear HB;have HB:=n0_;have BK143:=n1_;have GW143:=n2_;have GE143:=n3_;clear n0_ n1_ n2_ n3_;clear hb hbox hg;obtain ⟨hcz92_0,hcz92_1,hcz92_2,hcz92_3,hfz92_0,hfz92_1,hfz92_2,hfz92_3⟩:=blk_all4 BK143.out))
       refine bodyPost_ret (results_ct rfl _ _ gb143 29 #[.int .i64 0,.int .i64 0,.int .u64 0,.string (⟨#[]⟩ : ByteArray)] (0,0) _ rfl (blk_puts4 BK143.out rfl) Tryz.underlying29 rfl (by kernel_rfl)) rfl ?_
       exact ⟨by first | rfl | (simp [errW_none,errW_some] <;> rfl) | (simp [*,errW_none,errW_some] <;> rfl),by repeat (first | (with_reducible first | exact HB.out | apply below_alloc | apply pw_below_drewN | apply below_drew1 | refine below_set ?_ GE143.out) | exact HB.out)⟩
      ·rw [if_neg c90] at H
       have c90b0 : (a1 == (-9223372036854775808)) = false:=beq_eq_false_iff_ne.mpr c90
       have c90b1 : (a1 != (-9223372036854775808)) = true:=bne_iff_ne.mpr c90
       by_cases c93 : a1 = 0
       ·rw [if_pos c93] at H
        have c93b0 : (a1 == 0) = true:=beq_iff_eq.mpr c93
        have c93b1 : (a1 != 0) = false:=bne_eq_false_iff_eq.mpr c93
        clear c93
        replace H:=Option.bind_eq_some_iff.mp H
        obtain ⟨⟨t192,t193,t194,t195⟩,A940,H⟩:=H
        replace H : (some (t192,t193,t194,t195,0)) = some (r1,r2,r3,r4,r5):=H
        have A94:=Aside0.mk A940
        clear A940
        simp only [Option.some.injEq,Prod.mk.injEq] at H
        obtain ⟨rfl,rfl,rfl,rfl,rfl⟩:=H
        go_enter Tryz.func75,Tryz.ntmps75
        go_wp2_with (first | ((with_reducible refine gate_dst (N:=6) rfl ?_);refine box_event ?hg (N:=6) ?hd (cs:=#[.int .i64 0,.int .i64 0,.int .u64 0,.string (⟨#[]⟩ : ByteArray)]) (t:=29) ?hr ?_;(case hd=>rfl);(case hg=>rfl);(case hr=>first | (go_simp;done) | (go_simp;rfl));intro gb143 hg w95 hbox hb;have n0_:=Aside0.mk (below_step HB.out hb);have n1_:=Aside0.mk (hbox);have n2_:=Aside0.mk ((by rw [hg];exact (below_size HB.out) : w.heap.size ≤ gb143));have n3_:=Aside0.mk ((by rw [hg];exact (below_size HB.out) : w.heap.size ≤ gb143));clear HB;have HB:=n0_;have BK143:=n1_;have GW143:=n2_;have GE143:=n3_;clear n0_ n1_ n2_ n3_;clear hb hbox hg) | (go_at_call 69;(with_reducible refine (freshetref01_OfInt.calls (wrap64 (a1 * a2)) t192 t193 t194 t195 _ A94.out).mono ?_);rintro e w96 ⟨rfl,hb⟩;have n0_:=Aside0.mk (blk_below BK143.out hb);have n1_:=Aside0.mk (below_step HB.out hb);clear BK143;clear HB;have BK143:=n0_;have HB:=n1_;clear n0_ n1_;(try clear hb);obtain ⟨hcz97_0,hcz97_1,hcz97_2,hcz97_3,hfz97_0,hfz97_1,hfz97_2,hfz97_3⟩:=blk_all4 BK143.out))
        refine bodyPost_ret (results_ct rfl _ _ gb143 29 #[.int .i64 t192,.int .i64 t193,.int .u64 t194,.string t195] (0,0) _ rfl (blk_puts4 BK143.out rfl) Tryz.underlying29 rfl (by kernel_rfl)) rfl ?_
        exact ⟨by first | rfl | (simp [errW_none,errW_some] <;> rfl) | (simp [*,errW_none,errW_some] <;> rfl),by repeat (first | (with_reducible first | exact HB.out | apply below_alloc | apply pw_below_drewN | apply below_drew1 | refine below_set ?_ GE143.out) | exact HB.out)⟩
       ·rw [if_neg c93] at H
        have c93b0 : (a1 == 0) = false:=beq_eq_false_iff_ne.mpr c93
        have c93b1 : (a1 != 0) = true:=bne_iff_ne.mpr c93
        by_cases c98 : (wrap64 (Int.tdiv (wrap64 (a1 * a2)) a1)) = a2
        ·rw [if_pos c98] at H
         have c98b0 : ((wrap64 (Int.tdiv (wrap64 (a1 * a2)) a1)) == a2) = true:=beq_iff_eq.mpr c98
         have c98b1 : ((wrap64 (Int.tdiv (wrap64 (a1 * a2)) a1)) != a2) = false:=bne_eq_false_iff_eq.mpr c98
         clear c98
         replace H:=Option.bind_eq_some_iff.mp H
         obtain ⟨⟨t196,t197,t198,t199⟩,A990,H⟩:=H
         replace H : (some (t196,t197,t198,t199,0)) = some (r1,r2,r3,r4,r5):=H
         have A99:=Aside0.mk A990
         clear A990
         simp only [Option.some.injEq,Prod.mk.injEq] at H
         obtain ⟨rfl,rfl,rfl,rfl,rfl⟩:=H
         go_enter Tryz.func75,Tryz.ntmps75
         go_wp2_with (first | ((with_reducible refine gate_dst (N:=6) rfl ?_);refine box_event ?hg (N:=6) ?hd (cs:=#[.int .i64 0,.int .i64 0,.int .u64 0,.string (⟨#[]⟩ : ByteArray)]) (t:=29) ?hr ?_;(case hd=>rfl);(case hg=>rfl);(case hr=>first | (go_simp;done) | (go_simp;rfl));intro gb143 hg w100 hbox hb;have n0_:=Aside0.mk (below_step HB.out hb);have n1_:=Aside0.mk (hbox);have n2_:=Aside0.mk ((by rw [hg];exact (below_size HB.out) : w.heap.size ≤ gb143));have n3_:=Aside0.mk ((by rw [hg];exact (below_size HB.out) : w.heap.size ≤ gb143));clear HB;have HB:=n0_;have BK143:=n1_;have GW143:=n2_;have GE143:=n3_;clear n0_ n1_ n2_ n3_;clear hb hbox hg) | (go_at_call 69;(with_reducible refine (freshetref01_OfInt.calls (wrap64 (a1 * a2)) t196 t197 t198 t199 _ A99.out).mono ?_);rintro e w101 ⟨rfl,hb⟩;have n0_:=Aside0.mk (blk_below BK143.out hb);have n1_:=Aside0.mk (below_step HB.out hb);clear BK143;clear HB;have BK143:=n0_;have HB:=n1_;clear n0_ n1_;(try clear hb);obtain ⟨hcz102_0,hcz102_1,hcz102_2,hcz102_3,hfz102_0,hfz102_1,hfz102_2,hfz102_3⟩:=blk_all4 BK143.out))
         refine bodyPost_ret (results_ct rfl _ _ gb143 29 #[.int .i64 t196,.int .i64 t197,.int .u64 t198,.string t199] (0,0) _ rfl (blk_puts4 BK143.out rfl) Tryz.underlying29 rfl (by kernel_rfl)) rfl ?_
         exact ⟨by first | rfl | (simp [errW_none,errW_some] <;> rfl) | (simp [*,errW_none,errW_some] <;> rfl),by repeat (first | (with_reducible first | exact HB.out | apply below_alloc | apply pw_below_drewN | apply below_drew1 | refine below_set ?_ GE143.out) | exact HB.out)⟩
        ·rw [if_neg c98] at H
         have c98b0 : ((wrap64 (Int.tdiv (wrap64 (a1 * a2)) a1)) == a2) = false:=beq_eq_false_iff_ne.mpr c98
         have c98b1 : ((wrap64 (Int.tdiv (wrap64 (a1 * a2)) a1)) != a2) = true:=bne_iff_ne.mpr c98
         simp only [Option.some.injEq,Prod.mk.injEq] at H
         obtain ⟨rfl,rfl,rfl,rfl,rfl⟩:=H
         go_enter Tryz.func75,Tryz.ntmps75
         go_wp2_with (first | ((with_reducible refine gate_dst (N:=6) rfl ?_);refine box_event ?hg (N:=6) ?hd (cs:=#[.int .i64 0,.int .i64 0,.int .u64 0,.string (⟨#[]⟩ : ByteArray)]) (t:=29) ?hr ?_;(case hd=>rfl);(case hg=>rfl);(case hr=>first | (go_simp;done) | (go_simp;rfl));intro gb143 hg w103 hbox hb;have n0_:=Aside0.mk (below_step HB.out hb);have n1_:=Aside0.mk (hbox);have n2_:=Aside0.mk ((by rw [hg];exact (below_size HB.out) : w.heap.size ≤ gb143));have n3_:=Aside0.mk ((by rw [hg];exact (below_size HB.out) : w.heap.size ≤ gb143));clear HB;have HB:=n0_;have BK143:=n1_;have GW143:=n2_;have GE143:=n3_;clear n0_ n1_ n2_ n3_;clear hb hbox hg;obtain ⟨hcz104_0,hcz104_1,hcz104_2,hcz104_3,hfz104_0,hfz104_1,hfz104_2,hfz104_3⟩:=blk_all4 BK143.out))
         refine bodyPost_ret (results_ct rfl _ _ gb143 29 #[.int .i64 0,.int .i64 0,.int .u64 0,.string (⟨#[]⟩ : ByteArray)] (0,0) _ rfl (blk_puts4 BK143.out rfl) Tryz.underlying29 rfl (by kernel_rfl)) rfl ?_
         exact ⟨by first | rfl | (simp [errW_none,errW_some] <;> rfl) | (simp [*,errW_none,errW_some] <;> rfl),by repeat (first | (with_reducible first | exact HB.out | apply below_alloc | apply pw_below_drewN | apply below_drew1 | refine below_set ?_ GE143.out) | exact HB.out)⟩
     ·rw [if_neg c89] at H
      have c89b0 : (a2 == (-1)) = false:=beq_eq_false_iff_ne.mpr c89
      have c89b1 : (a2 != (-1)) = true:=bne_iff_ne.mpr c89
      by_cases c105 : a1 = 0
      ·rw [if_pos c105] at H
       have c105b0 : (a1 == 0) = true:=beq_iff_eq.mpr c105
       have c105b1 : (a1 != 0) = false:=bne_eq_false_iff_eq.mpr c105
       clear c105
       replace H:=Option.bind_eq_some_iff.mp H
       obtain ⟨⟨t200,t201,t202,t203⟩,A1060,H⟩:=H
       replace H : (some (t200,t201,t202,t203,0)) = some (r1,r2,r3,r4,r5):=H
       have A106:=Aside0.mk A1060
       clear A1060
       simp only [Option.some.injEq,Prod.mk.injEq] at H
       obtain ⟨rfl,rfl,rfl,rfl,rfl⟩:=H
       go_enter Tryz.func75,Tryz.ntmps75
       go_wp2_with (first | ((with_reducible refine gate_dst (N:=6) rfl ?_);refine box_event ?hg (N:=6) ?hd (cs:=#[.int .i64 0,.int .i64 0,.int .u64 0,.string (⟨#[]⟩ : ByteArray)]) (t:=29) ?hr ?_;(case hd=>rfl);(case hg=>rfl);(case hr=>first | (go_simp;done) | (go_simp;rfl));intro gb143 hg w107 hbox hb;have n0_:=Aside0.mk (below_step HB.out hb);have n1_:=Aside0.mk (hbox);have n2_:=Aside0.mk ((by rw [hg];exact (below_size HB.out) : w.heap.size ≤ gb143));have n3_:=Aside0.mk ((by rw [hg];exact (below_size HB.out) : w.heap.size ≤ gb143));clear HB;have HB:=n0_;have BK143:=n1_;have GW143:=n2_;have GE143:=n3_;clear n0_ n1_ n2_ n3_;clear hb hbox hg) | (go_at_call 69;(with_reducible refine (freshetref01_OfInt.calls (wrap64 (a1 * a2)) t200 t201 t202 t203 _ A106.out).mono ?_);rintro e w108 ⟨rfl,hb⟩;have n0_:=Aside0.mk (blk_below BK143.out hb);have n1_:=Aside0.mk (below_step HB.out hb);clear BK143;clear HB;have BK143:=n0_;have HB:=n1_;clear n0_ n1_;(try clear hb);obtain ⟨hcz109_0,hcz109_1,hcz109_2,hcz109_3,hfz109_0,hfz109_1,hfz109_2,hfz109_3⟩:=blk_all4 BK143.out))
       refine bodyPost_ret (results_ct rfl _ _ gb143 29 #[.int .i64 t200,.int .i64 t201,.int .u64 t202,.string t203] (0,0) _ rfl (blk_puts4 BK143.out rfl) Tryz.underlying29 rfl (by kernel_rfl)) rfl ?_
       exact ⟨by first | rfl | (simp [errW_none,errW_some] <;> rfl) | (simp [*,errW_none,errW_some] <;> rfl),by repeat (first | (with_reducible first | exact HB.out | apply below_alloc | apply pw_below_drewN | apply below_drew1 | refine below_set ?_ GE143.out) | exact HB.out)⟩
      ·rw [if_neg c105] at H
       have c105b0 : (a1 == 0) = false:=beq_eq_false_iff_ne.mpr c105
       have c105b1 : (a1 != 0) = true:=bne_iff_ne.mpr c105
       by_cases c110 : (wrap64 (Int.tdiv (wrap64 (a1 * a2)) a1)) = a2
       ·rw [if_pos c110] at H
        have c110b0 : ((wrap64 (Int.tdiv (wrap64 (a1 * a2)) a1)) == a2) = true:=beq_iff_eq.mpr c110
        have c110b1 : ((wrap64 (Int.tdiv (wrap64 (a1 * a2)) a1)) != a2) = false:=bne_eq_false_iff_eq.mpr c110
        clear c110
        replace H:=Option.bind_eq_some_iff.mp H
        obtain ⟨⟨t204,t205,t206,t207⟩,A1110,H⟩:=H
        replace H : (some (t204,t205,t206,t207,0)) = some (r1,r2,r3,r4,r5):=H
        have A111:=Aside0.mk A1110
        clear A1110
        simp only [Option.some.injEq,Prod.mk.injEq] at H
        obtain ⟨rfl,rfl,rfl,rfl,rfl⟩:=H
        go_enter Tryz.func75,Tryz.ntmps75
        go_wp2_with (first | ((with_reducible refine gate_dst (N:=6) rfl ?_);refine box_event ?hg (N:=6) ?hd (cs:=#[.int .i64 0,.int .i64 0,.int .u64 0,.string (⟨#[]⟩ : ByteArray)]) (t:=29) ?hr ?_;(case hd=>rfl);(case hg=>rfl);(case hr=>first | (go_simp;done) | (go_simp;rfl));intro gb143 hg w112 hbox hb;have n0_:=Aside0.mk (below_step HB.out hb);have n1_:=Aside0.mk (hbox);have n2_:=Aside0.mk ((by rw [hg];exact (below_size HB.out) : w.heap.size ≤ gb143));have n3_:=Aside0.mk ((by rw [hg];exact (below_size HB.out) : w.heap.size ≤ gb143));clear HB;have HB:=n0_;have BK143:=n1_;have GW143:=n2_;have GE143:=n3_;clear n0_ n1_ n2_ n3_;clear hb hbox hg) | (go_at_call 69;(with_reducible refine (freshetref01_OfInt.calls (wrap64 (a1 * a2)) t204 t205 t206 t207 _ A111.out).mono ?_);rintro e w113 ⟨rfl,hb⟩;have n0_:=Aside0.mk (blk_below BK143.out hb);have n1_:=Aside0.mk (below_step HB.out hb);clear BK143;clear HB;have BK143:=n0_;have HB:=n1_;clear n0_ n1_;(try clear hb);obtain ⟨hcz114_0,hcz114_1,hcz114_2,hcz114_3,hfz114_0,hfz114_1,hfz114_2,hfz114_3⟩:=blk_all4 BK143.out))
        refine bodyPost_ret (results_ct rfl _ _ gb143 29 #[.int .i64 t204,.int .i64 t205,.int .u64 t206,.string t207] (0,0) _ rfl (blk_puts4 BK143.out rfl) Tryz.underlying29 rfl (by kernel_rfl)) rfl ?_
        exact ⟨by first | rfl | (simp [errW_none,errW_some] <;> rfl) | (simp [*,errW_none,errW_some] <;> rfl),by repeat (first | (with_reducible first | exact HB.out | apply below_alloc | apply pw_below_drewN | apply below_drew1 | refine below_set ?_ GE143.out) | exact HB.out)⟩
       ·rw [if_neg c110] at H
        have c110b0 : ((wrap64 (Int.tdiv (wrap64 (a1 * a2)) a1)) == a2) = false:=beq_eq_false_iff_ne.mpr c110
        have c110b1 : ((wrap64 (Int.tdiv (wrap64 (a1 * a2)) a1)) != a2) = true:=bne_iff_ne.mpr c110
        simp only [Option.some.injEq,Prod.mk.injEq] at H
        obtain ⟨rfl,rfl,rfl,rfl,rfl⟩:=H
        go_enter Tryz.func75,Tryz.ntmps75
        go_wp2_with (first | ((with_reducible refine gate_dst (N:=6) rfl ?_);refine box_event ?hg (N:=6) ?hd (cs:=#[.int .i64 0,.int .i64 0,.int .u64 0,.string (⟨#[]⟩ : ByteArray)]) (t:=29) ?hr ?_;(case hd=>rfl);(case hg=>rfl);(case hr=>first | (go_simp;done) | (go_simp;rfl));intro gb143 hg w115 hbox hb;have n0_:=Aside0.mk (below_step HB.out hb);have n1_:=Aside0.mk (hbox);have n2_:=Aside0.mk ((by rw [hg];exact (below_size HB.out) : w.heap.size ≤ gb143));have n3_:=Aside0.mk ((by rw [hg];exact (below_size HB.out) : w.heap.size ≤ gb143));clear HB;have HB:=n0_;have BK143:=n1_;have GW143:=n2_;have GE143:=n3_;clear n0_ n1_ n2_ n3_;clear hb hbox hg;obtain ⟨hcz116_0,hcz116_1,hcz116_2,hcz116_3,hfz116_0,hfz116_1,hfz116_2,hfz116_3⟩:=blk_all4 BK143.out))
        refine bodyPost_ret (results_ct rfl _ _ gb143 29 #[.int .i64 0,.int .i64 0,.int .u64 0,.string (⟨#[]⟩ : ByteArray)] (0,0) _ rfl (blk_puts4 BK143.out rfl) Tryz.underlying29 rfl (by kernel_rfl)) rfl ?_
        exact ⟨by first | rfl | (simp [errW_none,errW_some] <;> rfl) | (simp [*,errW_none,errW_some] <;> rfl),by repeat (first | (with_reducible first | exact HB.out | apply below_alloc | apply pw_below_drewN | apply below_drew1 | refine below_set ?_ GE143.out) | exact HB.out)⟩
   ·rw [if_neg c62] at H
    have c62b0 : (a0 == 12) = false:=beq_eq_false_iff_ne.mpr c62
    have c62b1 : (a0 != 12) = true:=bne_iff_ne.mpr c62
    by_cases c117 : a2 = 0
    ·rw [if_pos c117] at H
     have c117b0 : (a2 == 0) = true:=beq_iff_eq.mpr c117
     have c117b1 : (a2 != 0) = false:=bne_eq_false_iff_eq.mpr c117
     clear c117
     simp only [Option.some.injEq,Prod.mk.injEq] at H
     obtain ⟨rfl,rfl,rfl,rfl,rfl⟩:=H
     go_enter Tryz.func75,Tryz.ntmps75
     go_wp2_with (first | ((with_reducible refine gate_dst (N:=6) rfl ?_);refine box_event ?hg (N:=6) ?hd (cs:=#[.int .i64 0,.int .i64 0,.int .u64 0,.string (⟨#[]⟩ : ByteArray)]) (t:=29) ?hr ?_;(case hd=>rfl);(case hg=>rfl);(case hr=>first | (go_simp;done) | (go_simp;rfl));intro gb143 hg w118 hbox hb;have n0_:=Aside0.mk (below_step HB.out hb);have n1_:=Aside0.mk (hbox);have n2_:=Aside0.mk ((by rw [hg];exact (below_size HB.out) : w.heap.size ≤ gb143));have n3_:=Aside0.mk ((by rw [hg];exact (below_size HB.out) : w.heap.size ≤ gb143));clear HB;have HB:=n0_;have BK143:=n1_;have GW143:=n2_;have GE143:=n3_;clear n0_ n1_ n2_ n3_;clear hb hbox hg;obtain ⟨hcz119_0,hcz119_1,hcz119_2,hcz119_3,hfz119_0,hfz119_1,hfz119_2,hfz119_3⟩:=blk_all4 BK143.out))
     refine bodyPost_ret (results_ct rfl _ _ gb143 29 #[.int .i64 0,.int .i64 0,.int .u64 0,.string (⟨#[]⟩ : ByteArray)] (0,0) _ rfl (blk_puts4 BK143.out rfl) Tryz.underlying29 rfl (by kernel_rfl)) rfl ?_
     exact ⟨by first | rfl | (simp [errW_none,errW_some] <;> rfl) | (simp [*,errW_none,errW_some] <;> rfl),by repeat (first | (with_reducible first | exact HB.out | apply below_alloc | apply pw_below_drewN | apply below_drew1 | refine below_set ?_ GE143.out) | exact HB.out)⟩
    ·rw [if_neg c117] at H
     have c117b0 : (a2 == 0) = false:=beq_eq_false_iff_ne.mpr c117
     have c117b1 : (a2 != 0) = true:=bne_iff_ne.mpr c117
     by_cases c120 : a2 = (-1)
     ·rw [if_pos c120] at H
      have c120b0 : (a2 == (-1)) = true:=beq_iff_eq.mpr c120
      have c120b1 : (a2 != (-1)) = false:=bne_eq_false_iff_eq.mpr c120
      clear c120
      by_cases c121 : a0 = 14
      ·rw [if_pos c121] at H
       have c121b0 : (a0 == 14) = true:=beq_iff_eq.mpr c121
       have c121b1 : (a0 != 14) = false:=bne_eq_false_iff_eq.mpr c121
       clear c121
       replace H:=Option.bind_eq_some_iff.mp H
       obtain ⟨⟨t208,t209,t210,t211⟩,A1220,H⟩:=H
       replace H : (some (t208,t209,t210,t211,0)) = some (r1,r2,r3,r4,r5):=H
       have A122:=Aside0.mk A1220
       clear A1220
       simp only [Option.some.injEq,Prod.mk.injEq] at H
       obtain ⟨rfl,rfl,rfl,rfl,rfl⟩:=H
       go_enter Tryz.func75,Tryz.ntmps75
       go_wp2_with (first | ((with_reducible refine gate_dst (N:=6) rfl ?_);refine box_event ?hg (N:=6) ?hd (cs:=#[.int .i64 0,.int .i64 0,.int .u64 0,.string (⟨#[]⟩ : ByteArray)]) (t:=29) ?hr ?_;(case hd=>rfl);(case hg=>rfl);(case hr=>first | (go_simp;done) | (go_simp;rfl));intro gb143 hg w123 hbox hb;have n0_:=Aside0.mk (below_step HB.out hb);have n1_:=Aside0.mk (hbox);have n2_:=Aside0.mk ((by rw [hg];exact (below_size HB.out) : w.heap.size ≤ gb143));have n3_:=Aside0.mk ((by rw [hg];exact (below_size HB.out) : w.heap.size ≤ gb143));clear HB;have HB:=n0_;have BK143:=n1_;have GW143:=n2_;have GE143:=n3_;clear n0_ n1_ n2_ n3_;clear hb hbox hg) | (go_at_call 69;(with_reducible refine (freshetref01_OfInt.calls 0 t208 t209 t210 t211 _ A122.out).mono ?_);rintro e w124 ⟨rfl,hb⟩;have n0_:=Aside0.mk (blk_below BK143.out hb);have n1_:=Aside0.mk (below_step HB.out hb);clear BK143;clear HB;have BK143:=n0_;have HB:=n1_;clear n0_ n1_;(try clear hb);obtain ⟨hcz125_0,hcz125_1,hcz125_2,hcz125_3,hfz125_0,hfz125_1,hfz125_2,hfz125_3⟩:=blk_all4 BK143.out))
       refine bodyPost_ret (results_ct rfl _ _ gb143 29 #[.int .i64 t208,.int .i64 t209,.int .u64 t210,.string t211] (0,0) _ rfl (blk_puts4 BK143.out rfl) Tryz.underlying29 rfl (by kernel_rfl)) rfl ?_
       exact ⟨by first | rfl | (simp [errW_none,errW_some] <;> rfl) | (simp [*,errW_none,errW_some] <;> rfl),by repeat (first | (with_reducible first | exact HB.out | apply below_alloc | apply pw_below_drewN | apply below_drew1 | refine below_set ?_ GE143.out) | exact HB.out)⟩
      ·rw [if_neg c121] at H
       have c121b0 : (a0 == 14) = false:=beq_eq_false_iff_ne.mpr c121
       have c121b1 : (a0 != 14) = true:=bne_iff_ne.mpr c121
       by_cases c126 : a1 = (-9223372036854775808)
       ·rw [if_pos c126] at H
        have c126b0 : (a1 == (-9223372036854775808)) = true:=beq_iff_eq.mpr c126
        have c126b1 : (a1 != (-9223372036854775808)) = false:=bne_eq_false_iff_eq.mpr c126
        clear c126
        simp only [Option.some.injEq,Prod.mk.injEq] at H
        obtain ⟨rfl,rfl,rfl,rfl,rfl⟩:=H
        go_enter Tryz.func75,Tryz.ntmps75
        go_wp2_with (first | ((with_reducible refine gate_dst (N:=6) rfl ?_);refine box_event ?hg (N:=6) ?hd (cs:=#[.int .i64 0,.int .i64 0,.int .u64 0,.string (⟨#[]⟩ : ByteArray)]) (t:=29) ?hr ?_;(case hd=>rfl);(case hg=>rfl);(case hr=>first | (go_simp;done) | (go_simp;rfl));intro gb143 hg w127 hbox hb;have n0_:=Aside0.mk (below_step HB.out hb);have n1_:=Aside0.mk (hbox);have n2_:=Aside0.mk ((by rw [hg];exact (below_size HB.out) : w.heap.size ≤ gb143));have n3_:=Aside0.mk ((by rw [hg];exact (below_size HB.out) : w.heap.size ≤ gb143));clear HB;have HB:=n0_;have BK143:=n1_;have GW143:=n2_;have GE143:=n3_;clear n0_ n1_ n2_ n3_;clear hb hbox hg;obtain ⟨hcz128_0,hcz128_1,hcz128_2,hcz128_3,hfz128_0,hfz128_1,hfz128_2,hfz128_3⟩:=blk_all4 BK143.out))
        refine bodyPost_ret (results_ct rfl _ _ gb143 29 #[.int .i64 0,.int .i64 0,.int .u64 0,.string (⟨#[]⟩ : ByteArray)] (0,0) _ rfl (blk_puts4 BK143.out rfl) Tryz.underlying29 rfl (by kernel_rfl)) rfl ?_
        exact ⟨by first | rfl | (simp [errW_none,errW_some] <;> rfl) | (simp [*,errW_none,errW_some] <;> rfl),by repeat (first | (with_reducible first | exact HB.out | apply below_alloc | apply pw_below_drewN | apply below_drew1 | refine below_set ?_ GE143.out) | exact HB.out)⟩
       ·rw [if_neg c126] at H
        have c126b0 : (a1 == (-9223372036854775808)) = false:=beq_eq_false_iff_ne.mpr c126
        have c126b1 : (a1 != (-9223372036854775808)) = true:=bne_iff_ne.mpr c126
        replace H:=Option.bind_eq_some_iff.mp H
        obtain ⟨⟨t212,t213,t214,t215⟩,A1290,H⟩:=H
        replace H : (some (t212,t213,t214,t215,0)) = some (r1,r2,r3,r4,r5):=H
        have A129:=Aside0.mk A1290
        clear A1290
        simp only [Option.some.injEq,Prod.mk.injEq] at H
        obtain ⟨rfl,rfl,rfl,rfl,rfl⟩:=H
        go_enter Tryz.func75,Tryz.ntmps75
        go_wp2_with (first | ((with_reducible refine gate_dst (N:=6) rfl ?_);refine box_event ?hg (N:=6) ?hd (cs:=#[.int .i64 0,.int .i64 0,.int .u64 0,.string (⟨#[]⟩ : ByteArray)]) (t:=29) ?hr ?_;(case hd=>rfl);(case hg=>rfl);(case hr=>first | (go_simp;done) | (go_simp;rfl));intro gb143 hg w130 hbox hb;have n0_:=Aside0.mk (below_step HB.out hb);have n1_:=Aside0.mk (hbox);have n2_:=Aside0.mk ((by rw [hg];exact (below_size HB.out) : w.heap.size ≤ gb143));have n3_:=Aside0.mk ((by rw [hg];exact (below_size HB.out) : w.heap.size ≤ gb143));clear HB;have HB:=n0_;have BK143:=n1_;have GW143:=n2_;have GE143:=n3_;clear n0_ n1_ n2_ n3_;clear hb hbox hg) | (go_at_call 69;(with_reducible refine (freshetref01_OfInt.calls (wrap64 (-a1)) t212 t213 t214 t215 _ A129.out).mono ?_);rintro e w131 ⟨rfl,hb⟩;have n0_:=Aside0.mk (blk_below BK143.out hb);have n1_:=Aside0.mk (below_step HB.out hb);clear BK143;clear HB;have BK143:=n0_;have HB:=n1_;clear n0_ n1_;(try clear hb);obtain ⟨hcz132_0,hcz132_1,hcz132_2,hcz132_3,hfz132_0,hfz132_1,hfz132_2,hfz132_3⟩:=blk_all4 BK143.out))
        refine bodyPost_ret (results_ct rfl _ _ gb143 29 #[.int .i64 t212,.int .i64 t213,.int .u64 t214,.string t215] (0,0) _ rfl (blk_puts4 BK143.out rfl) Tryz.underlying29 rfl (by kernel_rfl)) rfl ?_
        exact ⟨by first | rfl | (simp [errW_none,errW_some] <;> rfl) | (simp [*,errW_none,errW_some] <;> rfl),by repeat (first | (with_reducible first | exact HB.out | apply below_alloc | apply pw_below_drewN | apply below_drew1 | refine below_set ?_ GE143.out) | exact HB.out)⟩
     ·rw [if_neg c120] at H
      have c120b0 : (a2 == (-1)) = false:=beq_eq_false_iff_ne.mpr c120
      have c120b1 : (a2 != (-1)) = true:=bne_iff_ne.mpr c120
      by_cases c133 : a0 = 13
      ·rw [if_pos c133] at H
       have c133b0 : (a0 == 13) = true:=beq_iff_eq.mpr c133
       have c133b1 : (a0 != 13) = false:=bne_eq_false_iff_eq.mpr c133
       clear c133
       replace H:=Option.bind_eq_some_iff.mp H
       obtain ⟨⟨t216,t217,t218,t219⟩,A1340,H⟩:=H
       replace H : (some (t216,t217,t218,t219,0)) = some (r1,r2,r3,r4,r5):=H
       have A134:=Aside0.mk A1340
       clear A1340
       simp only [Option.some.injEq,Prod.mk.injEq] at H
       obtain ⟨rfl,rfl,rfl,rfl,rfl⟩:=H
       go_enter Tryz.func75,Tryz.ntmps75
       go_wp2_with (first | ((with_reducible refine gate_dst (N:=6) rfl ?_);refine box_event ?hg (N:=6) ?hd (cs:=#[.int .i64 0,.int .i64 0,.int .u64 0,.string (⟨#[]⟩ : ByteArray)]) (t:=29) ?hr ?_;(case hd=>rfl);(case hg=>rfl);(case hr=>first | (go_simp;done) | (go_simp;rfl));intro gb143 hg w135 hbox hb;have n0_:=Aside0.mk (below_step HB.out hb);have n1_:=Aside0.mk (hbox);have n2_:=Aside0.mk ((by rw [hg];exact (below_size HB.out) : w.heap.size ≤ gb143));have n3_:=Aside0.mk ((by rw [hg];exact (below_size HB.out) : w.heap.size ≤ gb143));clear HB;have HB:=n0_;have BK143:=n1_;have GW143:=n2_;have GE143:=n3_;clear n0_ n1_ n2_ n3_;clear hb hbox hg) | (go_at_call 69;(with_reducible refine (freshetref01_OfInt.calls (wrap64 (Int.tdiv a1 a2)) t216 t217 t218 t219 _ A134.out).mono ?_);rintro e w136 ⟨rfl,hb⟩;have n0_:=Aside0.mk (blk_below BK143.out hb);have n1_:=Aside0.mk (below_step HB.out hb);clear BK143;clear HB;have BK143:=n0_;have HB:=n1_;clear n0_ n1_;(try clear hb);obtain ⟨hcz137_0,hcz137_1,hcz137_2,hcz137_3,hfz137_0,hfz137_1,hfz137_2,hfz137_3⟩:=blk_all4 BK143.out))
       refine bodyPost_ret (results_ct rfl _ _ gb143 29 #[.int .i64 t216,.int .i64 t217,.int .u64 t218,.string t219] (0,0) _ rfl (blk_puts4 BK143.out rfl) Tryz.underlying29 rfl (by kernel_rfl)) rfl ?_
       exact ⟨by first | rfl | (simp [errW_none,errW_some] <;> rfl) | (simp [*,errW_none,errW_some] <;> rfl),by repeat (first | (with_reducible first | exact HB.out | apply below_alloc | apply pw_below_drewN | apply below_drew1 | refine below_set ?_ GE143.out) | exact HB.out)⟩
      ·rw [if_neg c133] at H
       have c133b0 : (a0 == 13) = false:=beq_eq_false_iff_ne.mpr c133
       have c133b1 : (a0 != 13) = true:=bne_iff_ne.mpr c133
       replace H:=Option.bind_eq_some_iff.mp H
       obtain ⟨⟨t220,t221,t222,t223⟩,A1380,H⟩:=H
       replace H : (some (t220,t221,t222,t223,0)) = some (r1,r2,r3,r4,r5):=H
       have A138:=Aside0.mk A1380
       clear A1380
       simp only [Option.some.injEq,Prod.mk.injEq] at H
       obtain ⟨rfl,rfl,rfl,rfl,rfl⟩:=H
       go_enter Tryz.func75,Tryz.ntmps75
       go_wp2_with (first | ((with_reducible refine gate_dst (N:=6) rfl ?_);refine box_event ?hg (N:=6) ?hd (cs:=#[.int .i64 0,.int .i64 0,.int .u64 0,.string (⟨#[]⟩ : ByteArray)]) (t:=29) ?hr ?_;(case hd=>rfl);(case hg=>rfl);(case hr=>first | (go_simp;done) | (go_simp;rfl));intro gb143 hg w139 hbox hb;have n0_:=Aside0.mk (below_step HB.out hb);have n1_:=Aside0.mk (hbox);have n2_:=Aside0.mk ((by rw [hg];exact (below_size HB.out) : w.heap.size ≤ gb143));have n3_:=Aside0.mk ((by rw [hg];exact (below_size HB.out) : w.heap.size ≤ gb143));clear HB;have HB:=n0_;have BK143:=n1_;have GW143:=n2_;have GE143:=n3_;clear n0_ n1_ n2_ n3_;clear hb hbox hg) | (go_at_call 69;(with_reducible refine (freshetref01_OfInt.calls (Int.tmod a1 a2) t220 t221 t222 t223 _ A138.out).mono ?_);rintro e w140 ⟨rfl,hb⟩;have n0_:=Aside0.mk (blk_below BK143.out hb);have n1_:=Aside0.mk (below_step HB.out hb);clear BK143;clear HB;have BK143:=n0_;have HB:=n1_;clear n0_ n1_;(try clear hb);obtain ⟨hcz141_0,hcz141_1,hcz141_2,hcz141_3,hfz141_0,hfz141_1,hfz141_2,hfz141_3⟩:=blk_all4 BK143.out))
       refine bodyPost_ret (results_ct rfl _ _ gb143 29 #[.int .i64 t220,.int .i64 t221,.int .u64 t222,.string t223] (0,0) _ rfl (blk_puts4 BK143.out rfl) Tryz.underlying29 rfl (by kernel_rfl)) rfl ?_
       exact ⟨by first | rfl | (simp [errW_none,errW_some] <;> rfl) | (simp [*,errW_none,errW_some] <;> rfl),by repeat (first | (with_reducible first | exact HB.out | apply below_alloc | apply pw_below_drewN | apply below_drew1 | refine below_set ?_ GE143.out) | exact HB.out)⟩
end Go.Proofs.YtakcjiinchghaaaGreatDoor.PRZ
end
