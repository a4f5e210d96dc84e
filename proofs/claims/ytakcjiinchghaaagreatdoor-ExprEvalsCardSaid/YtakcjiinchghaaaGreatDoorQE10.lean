/- a part of the claim: what the card leans on, out of the texts PRZx2, PRZx3 (put together by wip/tools/shake.py). -/
import Derived.Test.YtakcjiinchghaaaGreatDoorQE1
import Derived.Test.YtakcjiinchghaaaGreatDoorQE5
import Derived.Test.YtakcjiinchghaaaGreatDoorQE8
import Derived.Test.YtakcjiinchghaaaGreatDoorProg
import Derived.Below
import Derived.Deep.Draws
import Derived.Deep.AppendLies
import Derived.Maps.AppendAt
import Derived.OwnWalk
import Derived.Laws.BytesArg
import Derived.Laws.MakeOwn
import Derived.Laws.OwnMore
import Derived.Deep.OwnRows
import Derived.Tactics
import Derived.Lib.ConvBytes
import Derived.Laws.Slices
import Derived.WalkKit
import Derived.KernelRfl
import Derived.RowKit3
import Derived.Deep.LoopGhost
import Derived.Deep.QuietTactic
import Derived.BigQuiet
import Derived.WideLaws
import Derived.Deep.DeepCutAuto
import Derived.Deep.CutBlock
import Derived.Deep.RegionHeld3
import Derived.Laws.Rows
import Derived.Lib.AppendStr
import Derived.ArgAppend
import Derived.Laws.IdiomCopy
import Derived.OrdersHeld
import Derived.Laws.BitsLemmas
import Derived.RowKit
section
namespace Go.Proofs.YtakcjiinchghaaaGreatDoor.PRZ
open Go.RowKit Go.Proofs.YtakcjiinchghaaaGreatDoorW.PrintWords Go.Proofs.YtakcjiinchghaaaGreatDoorW.PrintLast Go.Proofs.YtakcjiinchghaaaGreatDoor.PRW
set_option linter.unusedVariables false
set_option linter.unusedSimpArgs false
def freshetref01_OfBool.f (a0 : Bool) : Option (Int × Int × Int × ByteArray):=if a0 = true then (some (1,1,0,(⟨#[]⟩ : ByteArray))) else (some (1,0,0,(⟨#[]⟩ : ByteArray)))
set_option maxHeartbeats 8000000 in
set_option maxRecDepth 100000 in
theorem freshetref01_OfBool.calls (a0 : Bool) (r1 : Int) (r2 : Int) (r3 : Int) (r4 : ByteArray) (w : World) (h : freshetref01_OfBool.f a0 = some (r1,r2,r3,r4)) :
  Calls Tryz.prog 66 #[.bool a0] w fun e w'=>e = .returned (.agg #[.int .i64 r1,.int .i64 r2,.int .u64 r3,.string r4]) ∧ Below w.heap.size w w':=by
 have hu29:=Tryz.underlying29
 have HB:=Aside0.mk (Below.refl w.heap.size w)
 have H : (if a0 = true then (some (1,1,0,(⟨#[]⟩ : ByteArray))) else (some (1,0,0,(⟨#[]⟩ : ByteArray)))) = some (r1,r2,r3,r4):=h
 clear h
 by_cases c2 : a0 = true
 ·subst c2
  have H1 : (some (1,1,0,(⟨#[]⟩ : ByteArray))) = some (r1,r2,r3,r4):=by rw [if_pos rfl] at H;exact H
  clear H
  have H:=H1
  clear H1
  simp only [Option.some.injEq,Prod.mk.injEq] at H
  obtain ⟨rfl,rfl,rfl,rfl⟩:=H
  go_enter Tryz.func66,Tryz.ntmps66
  go_wp2_with (first | ((with_reducible refine gate_dst (N:=2) rfl ?_);refine box_event ?hg (N:=2) ?hd (cs:=#[.int .i64 0,.int .i64 0,.int .u64 0,.string (⟨#[]⟩ : ByteArray)]) (t:=29) ?hr ?_;(case hd=>rfl);(case hg=>rfl);(case hr=>first | (go_simp;done) | (go_simp;rfl));intro gb101 hg w3 hbox hb;have n0_:=Aside0.mk (below_step HB.out hb);have n1_:=Aside0.mk (hbox);have n2_:=Aside0.mk ((by rw [hg];exact (below_size HB.out) : w.heap.size ≤ gb101));have n3_:=Aside0.mk ((by rw [hg];exact (below_size HB.out) : w.heap.size ≤ gb101));clear HB;have HB:=n0_;have BK101:=n1_;have GW101:=n2_;have GE101:=n3_;clear n0_ n1_ n2_ n3_;clear hb hbox hg;obtain ⟨hcz4_0,hcz4_1,hcz4_2,hcz4_3,hfz4_0,hfz4_1,hfz4_2,hfz4_3⟩:=blk_all4 BK101.out))
  refine bodyPost_ret (results_cell_row rfl _ _ gb101 29 #[.int .i64 1,.int .i64 1,.int .u64 0,.string (⟨#[]⟩ : ByteArray)] (0,0) _ rfl (blk_puts4 BK101.out rfl) Tryz.underlying29 rfl (by kernel_rfl)) rfl ?_
  exact ⟨by first | rfl | (simp [errW_none,errW_some] <;> rfl) | (simp [*,errW_none,errW_some] <;> rfl),by repeat (first | (with_reducible first | exact HB.out | apply below_alloc | apply pw_below_drewN | apply below_drew1 | refine below_set ?_ GE101.out) | exact HB.out)⟩
 ·replace c2:=Bool.eq_false_iff.mpr c2
  subst c2
  have H1 : (some (1,0,0,(⟨#[]⟩ : ByteArray))) = some (r1,r2,r3,r4):=by rw [if_neg (show ¬ (false = true) by decide)] at H;exact H
  clear H
  have H:=H1
  clear H1
  simp only [Option.some.injEq,Prod.mk.injEq] at H
  obtain ⟨rfl,rfl,rfl,rfl⟩:=H
  go_enter Tryz.func66,Tryz.ntmps66
  go_wp2_with (first | ((with_reducible refine gate_dst (N:=2) rfl ?_);refine box_event ?hg (N:=2) ?hd (cs:=#[.int .i64 0,.int .i64 0,.int .u64 0,.string (⟨#[]⟩ : ByteArray)]) (t:=29) ?hr ?_;(case hd=>rfl);(case hg=>rfl);(case hr=>first | (go_simp;done) | (go_simp;rfl));intro gb101 hg w5 hbox hb;have n0_:=Aside0.mk (below_step HB.out hb);have n1_:=Aside0.mk (hbox);have n2_:=Aside0.mk ((by rw [hg];exact (below_size HB.out) : w.heap.size ≤ gb101));have n3_:=Aside0.mk ((by rw [hg];exact (below_size HB.out) : w.heap.size ≤ gb101));clear HB;have HB:=n0_;have BK101:=n1_;have GW101:=n2_;have GE101:=n3_;clear n0_ n1_ n2_ n3_;clear hb hbox hg;obtain ⟨hcz6_0,hcz6_1,hcz6_2,hcz6_3,hfz6_0,hfz6_1,hfz6_2,hfz6_3⟩:=blk_all4 BK101.out))
  refine bodyPost_ret (results_cell_row rfl _ _ gb101 29 #[.int .i64 1,.int .i64 0,.int .u64 0,.string (⟨#[]⟩ : ByteArray)] (0,0) _ rfl (blk_puts4 BK101.out rfl) Tryz.underlying29 rfl (by kernel_rfl)) rfl ?_
  exact ⟨by first | rfl | (simp [errW_none,errW_some] <;> rfl) | (simp [*,errW_none,errW_some] <;> rfl),by repeat (first | (with_reducible first | exact HB.out | apply below_alloc | apply pw_below_drewN | apply below_drew1 | refine below_set ?_ GE101.out) | exact HB.out)⟩
def freshetref01_isNaN.f (a0 : Int) : Option (Bool):=some (decide ((Go.bits .and .u64 a0 9223372036854775807) > 9218868437227405312))
set_option maxHeartbeats 8000000 in
set_option maxRecDepth 100000 in
theorem freshetref01_isNaN.calls (a0 : Int) (r : Bool) (w : World) (h : freshetref01_isNaN.f a0 = some r) :
  Calls Tryz.prog 113 #[.int .u64 a0] w fun e w'=>e = .returned (.bool r) ∧ Drawn0 w w':=by
 have H : (some (decide ((Go.bits .and .u64 a0 9223372036854775807) > 9218868437227405312))) = some r:=h
 clear h
 obtain rfl:=Option.some.inj H
 go_enter Tryz.func113,Tryz.ntmps113
 go_wp2
 go_ret
 exact ⟨by first | rfl | (simp;done) | (simp [*];done),by repeat (first | exact Drawn0.refl _ | apply Drawn0.step)⟩
def freshetref01_Plain.f (a0 : Int) : Option (Int):=if a0 = 9223372036854775808 then (some 0) else ((freshetref01_isNaN.f a0).bind fun t102=>(if t102 = true then (some 9221120237041090560) else (some a0)))
set_option maxHeartbeats 8000000 in
set_option maxRecDepth 100000 in
theorem freshetref01_Plain.calls (a0 : Int) (r : Int) (w : World) (h : freshetref01_Plain.f a0 = some r) :
  Calls Tryz.prog 111 #[.int .u64 a0] w fun e w'=>e = .returned (.int .u64 r) ∧ Drawn0 w w':=by
 have H : (if a0 = 9223372036854775808 then (some 0) else ((freshetref01_isNaN.f a0).bind fun t102=>(if t102 = true then (some 9221120237041090560) else (some a0)))) = some r:=h
 clear h
 by_cases c2 : a0 = 9223372036854775808
 ·rw [if_pos c2] at H
  have c2b0 : (a0 == 9223372036854775808) = true:=beq_iff_eq.mpr c2
  have c2b1 : (a0 != 9223372036854775808) = false:=bne_eq_false_iff_eq.mpr c2
  clear c2
  obtain rfl:=Option.some.inj H
  go_enter Tryz.func111,Tryz.ntmps111
  go_wp2
  go_ret
  exact ⟨by first | rfl | (simp;done) | (simp [*];done),by repeat (first | exact Drawn0.refl _ | apply Drawn0.step)⟩
 ·rw [if_neg c2] at H
  have c2b0 : (a0 == 9223372036854775808) = false:=beq_eq_false_iff_ne.mpr c2
  have c2b1 : (a0 != 9223372036854775808) = true:=bne_iff_ne.mpr c2
  replace H:=Option.bind_eq_some_iff.mp H
  obtain ⟨t102,A30,H⟩:=H
  replace H : (if t102 = true then (some 9221120237041090560) else (some a0)) = some r:=H
  have A3:=Aside0.mk A30
  clear A30
  by_cases c4 : t102 = true
  ·subst c4
   have H1 : (some 9221120237041090560) = some r:=by rw [if_pos rfl] at H;exact H
   clear H
   have H:=H1
   clear H1
   obtain rfl:=Option.some.inj H
   go_enter Tryz.func111,Tryz.ntmps111
   go_wp2_with (first | ((with_reducible refine gate_callee (f:=113) rfl ?_);refine goesL_ (some 6) rfl rfl Tryz.func113 (by kernel_rfl) rfl #[.int .u64 a0] rfl (by (try simp only [List.map_toArray,List.map_cons,List.map_nil]);first | done | rfl | (simp only [List.length_drop,List.length_take];rfl)) ?_;(with_reducible refine (freshetref01_isNaN.calls a0 true _ A3.out).mono ?_);rintro e w' ⟨rfl,⟨nd,rfl⟩⟩;refine ⟨_,rfl, ?_⟩))
   go_ret
   exact ⟨by first | rfl | (simp;done) | (simp [*];done),by repeat (first | exact Drawn0.refl _ | apply Drawn0.step)⟩
  ·replace c4:=Bool.eq_false_iff.mpr c4
   subst c4
   have H1 : (some a0) = some r:=by rw [if_neg (show ¬ (false = true) by decide)] at H;exact H
   clear H
   have H:=H1
   clear H1
   obtain rfl:=Option.some.inj H
   go_enter Tryz.func111,Tryz.ntmps111
   go_wp2_with (first | ((with_reducible refine gate_callee (f:=113) rfl ?_);refine goesL_ (some 6) rfl rfl Tryz.func113 (by kernel_rfl) rfl #[.int .u64 a0] rfl (by (try simp only [List.map_toArray,List.map_cons,List.map_nil]);first | done | rfl | (simp only [List.length_drop,List.length_take];rfl)) ?_;(with_reducible refine (freshetref01_isNaN.calls a0 false _ A3.out).mono ?_);rintro e w' ⟨rfl,⟨nd,rfl⟩⟩;refine ⟨_,rfl, ?_⟩))
   go_ret
   exact ⟨by first | rfl | (simp;done) | (simp [*];done),by repeat (first | exact Drawn0.refl _ | apply Drawn0.step)⟩
def freshetref01_OfFloat.f (a0 : Int) : Option (Int × Int × Int × ByteArray):=(freshetref01_Plain.f a0).bind fun t104=>(some (3,0,t104,(⟨#[]⟩ : ByteArray)))
set_option maxHeartbeats 8000000 in
set_option maxRecDepth 100000 in
theorem freshetref01_OfFloat.calls (a0 : Int) (r1 : Int) (r2 : Int) (r3 : Int) (r4 : ByteArray) (w : World) (h : freshetref01_OfFloat.f a0 = some (r1,r2,r3,r4)) :
  Calls Tryz.prog 68 #[.int .u64 a0] w fun e w'=>e = .returned (.agg #[.int .i64 r1,.int .i64 r2,.int .u64 r3,.string r4]) ∧ Below w.heap.size w w':=by
 have hu29:=Tryz.underlying29
 have HB:=Aside0.mk (Below.refl w.heap.size w)
 have H : ((freshetref01_Plain.f a0).bind fun t104=>(some (3,0,t104,(⟨#[]⟩ : ByteArray)))) = some (r1,r2,r3,r4):=h
 clear h
 replace H:=Option.bind_eq_some_iff.mp H
 obtain ⟨t104,A20,H⟩:=H
 replace H : (some (3,0,t104,(⟨#[]⟩ : ByteArray))) = some (r1,r2,r3,r4):=H
 have A2:=Aside0.mk A20
 clear A20
 simp only [Option.some.injEq,Prod.mk.injEq] at H
 obtain ⟨rfl,rfl,rfl,rfl⟩:=H
 go_enter Tryz.func68,Tryz.ntmps68
 go_wp2_with (first | ((with_reducible refine gate_dst (N:=2) rfl ?_);refine box_event ?hg (N:=2) ?hd (cs:=#[.int .i64 0,.int .i64 0,.int .u64 0,.string (⟨#[]⟩ : ByteArray)]) (t:=29) ?hr ?_;(case hd=>rfl);(case hg=>rfl);(case hr=>first | (go_simp;done) | (go_simp;rfl));intro gb103 hg w3 hbox hb;have n0_:=Aside0.mk (below_step HB.out hb);have n1_:=Aside0.mk (hbox);have n2_:=Aside0.mk ((by rw [hg];exact (below_size HB.out) : w.heap.size ≤ gb103));have n3_:=Aside0.mk ((by rw [hg];exact (below_size HB.out) : w.heap.size ≤ gb103));clear HB;have HB:=n0_;have BK103:=n1_;have GW103:=n2_;have GE103:=n3_;clear n0_ n1_ n2_ n3_;clear hb hbox hg) | ((with_reducible refine gate_callee (f:=111) rfl ?_);refine goesL_ (some 4) rfl rfl Tryz.func111 (by kernel_rfl) rfl #[.int .u64 a0] rfl (by (try simp only [List.map_toArray,List.map_cons,List.map_nil]);first | done | rfl | (simp only [List.length_drop,List.length_take];rfl)) ?_;(with_reducible refine (freshetref01_Plain.calls a0 t104 _ A2.out).mono ?_);rintro e w' ⟨rfl,⟨nd,rfl⟩⟩;refine ⟨_,rfl, ?_⟩;(try (rw [drewN_self w3];generalize hq_ : World.drewN w3 _ = w3;have n0_ : Aside0 (w3.heap[gb103]? = some (.cells #[.int .i64 0,.int .i64 0,.int .u64 0,.string (⟨#[]⟩ : ByteArray)] 29 (0,0))):=⟨by rw [← hq_];exact BK103.out⟩;have n1_ : Aside0 (Below w.heap.size w w3):=⟨by rw [← hq_];exact HB.out⟩;clear BK103 HB hq_;have BK103:=n0_;have HB:=n1_;clear n0_ n1_));obtain ⟨hcz4_0,hcz4_1,hcz4_2,hcz4_3,hfz4_0,hfz4_1,hfz4_2,hfz4_3⟩:=blk_all4 BK103.out))
 refine bodyPost_ret (results_cell_row rfl _ _ gb103 29 #[.int .i64 3,.int .i64 0,.int .u64 t104,.string (⟨#[]⟩ : ByteArray)] (0,0) _ rfl (blk_puts4 BK103.out rfl) Tryz.underlying29 rfl (by kernel_rfl)) rfl ?_
 exact ⟨by first | rfl | (simp [errW_none,errW_some] <;> rfl) | (simp [*,errW_none,errW_some] <;> rfl),by repeat (first | (with_reducible first | exact HB.out | apply below_alloc | apply pw_below_drewN | apply below_drew1 | refine below_set ?_ GE103.out) | exact HB.out)⟩
def freshetref01_OfInt.f (a0 : Int) : Option (Int × Int × Int × ByteArray):=some (2,a0,0,(⟨#[]⟩ : ByteArray))
set_option maxHeartbeats 8000000 in
set_option maxRecDepth 100000 in
theorem freshetref01_OfInt.calls (a0 : Int) (r1 : Int) (r2 : Int) (r3 : Int) (r4 : ByteArray) (w : World) (h : freshetref01_OfInt.f a0 = some (r1,r2,r3,r4)) :
  Calls Tryz.prog 69 #[.int .i64 a0] w fun e w'=>e = .returned (.agg #[.int .i64 r1,.int .i64 r2,.int .u64 r3,.string r4]) ∧ Below w.heap.size w w':=by
 have hu29:=Tryz.underlying29
 have HB:=Aside0.mk (Below.refl w.heap.size w)
 have H : (some (2,a0,0,(⟨#[]⟩ : ByteArray))) = some (r1,r2,r3,r4):=h
 clear h
 simp only [Option.some.injEq,Prod.mk.injEq] at H
 obtain ⟨rfl,rfl,rfl,rfl⟩:=H
 go_enter Tryz.func69,Tryz.ntmps69
 go_wp2_with (first | ((with_reducible refine gate_dst (N:=2) rfl ?_);refine box_event ?hg (N:=2) ?hd (cs:=#[.int .i64 0,.int .i64 0,.int .u64 0,.string (⟨#[]⟩ : ByteArray)]) (t:=29) ?hr ?_;(case hd=>rfl);(case hg=>rfl);(case hr=>first | (go_simp;done) | (go_simp;rfl));intro gb105 hg w2 hbox hb;have n0_:=Aside0.mk (below_step HB.out hb);have n1_:=Aside0.mk (hbox);have n2_:=Aside0.mk ((by rw [hg];exact (below_size HB.out) : w.heap.size ≤ gb105));have n3_:=Aside0.mk ((by rw [hg];exact (below_size HB.out) : w.heap.size ≤ gb105));clear HB;have HB:=n0_;have BK105:=n1_;have GW105:=n2_;have GE105:=n3_;clear n0_ n1_ n2_ n3_;clear hb hbox hg;obtain ⟨hcz3_0,hcz3_1,hcz3_2,hcz3_3,hfz3_0,hfz3_1,hfz3_2,hfz3_3⟩:=blk_all4 BK105.out))
 refine bodyPost_ret (results_cell_row rfl _ _ gb105 29 #[.int .i64 2,.int .i64 a0,.int .u64 0,.string (⟨#[]⟩ : ByteArray)] (0,0) _ rfl (blk_puts4 BK105.out rfl) Tryz.underlying29 rfl (by kernel_rfl)) rfl ?_
 exact ⟨by first | rfl | (simp [errW_none,errW_some] <;> rfl) | (simp [*,errW_none,errW_some] <;> rfl),by repeat (first | (with_reducible first | exact HB.out | apply below_alloc | apply pw_below_drewN | apply below_drew1 | refine below_set ?_ GE105.out) | exact HB.out)⟩
def freshetref01_One.j0 : Nat → Int → Int → Bool → Int → Int → Int → ByteArray → Option (Int × Int × Int × ByteArray × Int)
 | 0,_,_,_,_,_,_,_=>none
 | k + 1,x0,x1,x30,x107000,x107001,x107002,x107003=>if x30 = true then (some (0,0,0,(⟨#[]⟩ : ByteArray),1)) else (if x0 = 5 then ((freshetref01_OfBool.f (x107000 == 0)).bind fun bt109=>(some (bt109.1,bt109.2.1,bt109.2.2.1,bt109.2.2.2,0))) else (if x107000 = 0 then (some (x107000,x107001,x107002,x107003,0)) else (if x0 = 6 then (if x107000 = x1 then (some (x107000,x107001,x107002,x107003,0)) else ((xrCast.f x107000 x107001 x107002 x107003 x1).bind fun bt113=>(some (bt113.1,bt113.2.1,bt113.2.2.1,bt113.2.2.2.1,bt113.2.2.2.2)))) else (if x0 = 4 then (if x107000 = 1 then ((freshetref01_OfBool.f (x107001 == 0)).bind fun bt118=>(some (bt118.1,bt118.2.1,bt118.2.2.1,bt118.2.2.2,0))) else (some (0,0,0,(⟨#[]⟩ : ByteArray),1))) else (if x107000 = 3 then ((freshetref01_OfFloat.f (Go.bits .xor .u64 x107002 9223372036854775808)).bind fun bt122=>(some (bt122.1,bt122.2.1,bt122.2.2.1,bt122.2.2.2,0))) else (if x107000 = 2 then (if x107001 = (-9223372036854775808) then (some (0,0,0,(⟨#[]⟩ : ByteArray),11)) else ((freshetref01_OfInt.f (wrap64 (-x107001))).bind fun bt126=>(some (bt126.1,bt126.2.1,bt126.2.2.1,bt126.2.2.2,0)))) else (some (0,0,0,(⟨#[]⟩ : ByteArray),1))))))))
def freshetref01_One.f (k : Nat) (a0 : Int) (a1 : Int) (a2_0 : Int) (a2_1 : Int) (a2_2 : Int) (a2_3 : ByteArray) : Option (Int × Int × Int × ByteArray × Int):=(xrSound.f a2_0 a2_1 a2_2 a2_3).bind fun t108=>(if t108 = true then (if a0 < 3 then (freshetref01_One.j0 k a0 a1 true a2_0 a2_1 a2_2 a2_3) else (if a0 > 6 then (freshetref01_One.j0 k a0 a1 true a2_0 a2_1 a2_2 a2_3) else (if a0 = 6 then (if a1 < 1 then (freshetref01_One.j0 k a0 a1 true a2_0 a2_1 a2_2 a2_3) else (freshetref01_One.j0 k a0 a1 (decide (a1 > 4)) a2_0 a2_1 a2_2 a2_3)) else (freshetref01_One.j0 k a0 a1 false a2_0 a2_1 a2_2 a2_3)))) else (freshetref01_One.j0 k a0 a1 true a2_0 a2_1 a2_2 a2_3))
theorem freshetref01_One.mono_l : ∀ k,(∀ y0 y1 y2 y3 y4 y5 y6,LeO (freshetref01_One.j0 k y0 y1 y2 y3 y4 y5 y6) (freshetref01_One.j0 (k + 1) y0 y1 y2 y3 y4 y5 y6))
 | 0=>fun _ _ _ _ _ _ _ r h=>by simp [freshetref01_One.j0] at h
 | k + 1=>by
  have ih0:=freshetref01_One.mono_l k
  ·intro y0 y1 y2 y3 y4 y5 y6
   unfold freshetref01_One.j0
   repeat' first
   | (with_reducible exact ih0 _ _ _ _ _ _ _)
   | (with_reducible exact LeO.refl _)
   | (with_reducible exact LeO.none _)
   | (with_reducible refine LeO.ite ?_ ?_)
   | (with_reducible refine LeO.bind ?_ (fun _=>?_))
   | exact ih0 _ _ _ _ _ _ _
   | exact LeO.none _
   | refine LeO.ite ?_ ?_
   | refine LeO.bind ?_ (fun _=>?_)
theorem freshetref01_One.mono : ∀ a0 a1 a2 a3 a4 a5 k,LeO (freshetref01_One.f k a0 a1 a2 a3 a4 a5) (freshetref01_One.f (k + 1) a0 a1 a2 a3 a4 a5):=by
 intro a0 a1 a2 a3 a4 a5 k
 have ih0:=freshetref01_One.mono_l k
 unfold freshetref01_One.f
 repeat' first
   | (with_reducible exact ih0 _ _ _ _ _ _ _)
   | (with_reducible exact LeO.refl _)
   | (with_reducible exact LeO.none _)
   | (with_reducible refine LeO.ite ?_ ?_)
   | (with_reducible refine LeO.bind ?_ (fun _=>?_))
   | exact ih0 _ _ _ _ _ _ _
   | exact LeO.none _
   | refine LeO.ite ?_ ?_
   | refine LeO.bind ?_ (fun _=>?_)
set_option maxHeartbeats 8000000 in
set_option maxRecDepth 100000 in
theorem freshetref01_One.calls (k : Nat) (a0 : Int) (a1 : Int) (a2_0 : Int) (a2_1 : Int) (a2_2 : Int) (a2_3 : ByteArray) (r1 : Int) (r2 : Int) (r3 : Int) (r4 : ByteArray) (r5 : Int) (w : World) (h : freshetref01_One.f k a0 a1 a2_0 a2_1 a2_2 a2_3 = some (r1,r2,r3,r4,r5)) :
  Calls Tryz.prog 40 #[.int .i64 a0,.int .i64 a1,.agg #[.int .i64 a2_0,.int .i64 a2_1,.int .u64 a2_2,.string a2_3]] w fun e w'=>e = .returned (.tuple #[.agg #[.int .i64 r1,.int .i64 r2,.int .u64 r3,.string r4],.int .i64 r5]) ∧ Below w.heap.size w w':=by
 have hu29:=Tryz.underlying29
 have HB:=Aside0.mk (Below.refl w.heap.size w)
 have H : ((xrSound.f a2_0 a2_1 a2_2 a2_3).bind fun t108=>(if t108 = true then (if a0 < 3 then (freshetref01_One.j0 k a0 a1 true a2_0 a2_1 a2_2 a2_3) else (if a0 > 6 then (freshetref01_One.j0 k a0 a1 true a2_0 a2_1 a2_2 a2_3) else (if a0 = 6 then (if a1 < 1 then (freshetref01_One.j0 k a0 a1 true a2_0 a2_1 a2_2 a2_3) else (freshetref01_One.j0 k a0 a1 (decide (a1 > 4)) a2_0 a2_1 a2_2 a2_3)) else (freshetref01_One.j0 k a0 a1 false a2_0 a2_1 a2_2 a2_3)))) else (freshetref01_One.j0 k a0 a1 true a2_0 a2_1 a2_2 a2_3))) = some (r1,r2,r3,r4,r5):=h
 clear h
 have HC4:=Aside0.mk H
 clear H
 go_enter Tryz.func40,Tryz.ntmps40
 go_upto_region 1 with (first | ((with_reducible refine gate_dst (N:=5) rfl ?_);refine box_event ?hg (N:=5) ?hd (cs:=#[.int .i64 a2_0,.int .i64 a2_1,.int .u64 a2_2,.string a2_3]) (t:=29) ?hr ?_;(case hd=>rfl);(case hg=>rfl);(case hr=>first | (go_simp;done) | (go_simp;rfl));intro gb106 hg w5 hbox hb;have n0_:=Aside0.mk (below_step HB.out hb);have n1_:=Aside0.mk (hbox);have n2_:=Aside0.mk ((by rw [hg];exact (below_size HB.out) : w.heap.size ≤ gb106));have n3_:=Aside0.mk ((by rw [hg];exact (below_size HB.out) : w.heap.size ≤ gb106));clear HB;have HB:=n0_;have BK106:=n1_;have GW106:=n2_;have GE106:=n3_;clear n0_ n1_ n2_ n3_;clear hb hbox hg) | ((with_reducible refine gate_dst (N:=6) rfl ?_);refine box_event ?hg (N:=6) ?hd (cs:=#[.int .i64 0,.int .i64 0,.int .u64 0,.string (⟨#[]⟩ : ByteArray)]) (t:=29) ?hr ?_;(case hd=>rfl);(case hg=>rfl);(case hr=>first | (go_simp;done) | (go_simp;rfl));intro gb107 hg w6 hbox hb;have n0_:=Aside0.mk (blk_below BK106.out hb);have n1_:=Aside0.mk (below_step HB.out hb);have n2_:=Aside0.mk (hbox);have n3_:=Aside0.mk ((by rw [hg];exact (below_size HB.out) : w.heap.size ≤ gb107));have n4_:=Aside0.mk ((by rw [hg];exact (below_size HB.out) : w.heap.size ≤ gb107));have n5_:=Aside0.mk ((by rw [hg];exact Nat.ne_of_lt (blk_lt (g:=gb106) (o:=.cells #[.int .i64 a2_0,.int .i64 a2_1,.int .u64 a2_2,.string a2_3] 29 (0,0)) BK106.out) : gb106 ≠ gb107));have n6_:=Aside0.mk ((by rw [hg];exact Nat.ne_of_gt (blk_lt (g:=gb106) (o:=.cells #[.int .i64 a2_0,.int .i64 a2_1,.int .u64 a2_2,.string a2_3] 29 (0,0)) BK106.out) : gb107 ≠ gb106));clear BK106;clear HB;have BK106:=n0_;have HB:=n1_;have BK107:=n2_;have GW107:=n3_;have GE107:=n4_;have NB106_107:=n5_;have NB107_106:=n6_;clear n0_ n1_ n2_ n3_ n4_ n5_ n6_;clear hb hbox hg))
 (try simp only [Act.put,List.setIfInBounds_toArray,List.set_cons_zero,List.set_cons_succ])
 go_cut [30] (fun v30 wc=>∃ (kq : Nat) (x30_3 : Bool),v30 = .bool x30_3 ∧ Aside0 (freshetref01_One.j0 kq a0 a1 x30_3 a2_0 a2_1 a2_2 a2_3 = some (r1,r2,r3,r4,r5)) ∧ Aside0 (kq ≤ k) ∧ Aside0 (wc.heap[gb106]? = some (.cells #[.int .i64 a2_0,.int .i64 a2_1,.int .u64 a2_2,.string a2_3] 29 (0,0))) ∧ Aside0 (wc.heap[gb107]? = some (.cells #[.int .i64 0,.int .i64 0,.int .u64 0,.string (⟨#[]⟩ : ByteArray)] 29 (0,0))) ∧ Aside0 (Below w.heap.size w wc))
 case first =>
  have H:=HC4.out
  clear HC4
  replace H:=Option.bind_eq_some_iff.mp H
  obtain ⟨t108,A70,H⟩:=H
  replace H : (if t108 = true then (if a0 < 3 then (freshetref01_One.j0 k a0 a1 true a2_0 a2_1 a2_2 a2_3) else (if a0 > 6 then (freshetref01_One.j0 k a0 a1 true a2_0 a2_1 a2_2 a2_3) else (if a0 = 6 then (if a1 < 1 then (freshetref01_One.j0 k a0 a1 true a2_0 a2_1 a2_2 a2_3) else (freshetref01_One.j0 k a0 a1 (decide (a1 > 4)) a2_0 a2_1 a2_2 a2_3)) else (freshetref01_One.j0 k a0 a1 false a2_0 a2_1 a2_2 a2_3)))) else (freshetref01_One.j0 k a0 a1 true a2_0 a2_1 a2_2 a2_3)) = some (r1,r2,r3,r4,r5):=H
  have A7:=Aside0.mk A70
  clear A70
  by_cases c8 : t108 = true
  ·subst c8
   have H1 : (if a0 < 3 then (freshetref01_One.j0 k a0 a1 true a2_0 a2_1 a2_2 a2_3) else (if a0 > 6 then (freshetref01_One.j0 k a0 a1 true a2_0 a2_1 a2_2 a2_3) else (if a0 = 6 then (if a1 < 1 then (freshetref01_One.j0 k a0 a1 true a2_0 a2_1 a2_2 a2_3) else (freshetref01_One.j0 k a0 a1 (decide (a1 > 4)) a2_0 a2_1 a2_2 a2_3)) else (freshetref01_One.j0 k a0 a1 false a2_0 a2_1 a2_2 a2_3)))) = some (r1,r2,r3,r4,r5):=by rw [if_pos rfl] at H;exact H
   clear H
   have H:=H1
   clear H1
   by_cases c9 : a0 < 3
   ·rw [if_pos c9] at H
    have c9b0 : decide (a0 < 3) = true:=decide_eq_true c9
    clear c9
    (first | rw [c9b0] | (simp only [i64_w,i32_w];rw [c9b0]) | skip)
    have H':=Aside0.mk H
    clear H
    have hnb10:=NB106_107.out
    have hnc10:=NB107_106.out
    obtain ⟨hcz11_0,hcz11_1,hcz11_2,hcz11_3,hfz11_0,hfz11_1,hfz11_2,hfz11_3⟩:=blk_all4 BK106.out
    go_wp2_with (first | (go_at_call 65;(with_reducible refine (xrSound.calls a2_0 a2_1 a2_2 a2_3 true _ A7.out).mono ?_);rintro e w12 ⟨rfl,hb⟩;have n0_:=Aside0.mk (blk_below BK106.out hb);have n1_:=Aside0.mk (blk_below BK107.out hb);have n2_:=Aside0.mk (below_step HB.out hb);clear BK106;clear BK107;clear HB;have BK106:=n0_;have BK107:=n1_;have HB:=n2_;clear n0_ n1_ n2_;(try clear hb)))
    go_meet
    case rel=>exact ⟨_,(true),(by first | rfl | (simp;done) | (simp [*];done)),H',⟨by first | omega | exact Nat.le_refl _⟩,⟨BK106.out⟩,⟨BK107.out⟩,⟨HB.out⟩⟩
   ·rw [if_neg c9] at H
    have c9b0 : decide (a0 < 3) = false:=decide_eq_false c9
    clear c9
    (first | rw [c9b0] | (simp only [i64_w,i32_w];rw [c9b0]) | skip)
    by_cases c13 : a0 > 6
    ·rw [if_pos c13] at H
     have c13b0 : decide (6 < a0) = true:=decide_eq_true c13
     clear c13
     have H':=Aside0.mk H
     clear H
     have hnb14:=NB106_107.out
     have hnc14:=NB107_106.out
     obtain ⟨hcz15_0,hcz15_1,hcz15_2,hcz15_3,hfz15_0,hfz15_1,hfz15_2,hfz15_3⟩:=blk_all4 BK106.out
     go_wp2_with (first | (go_at_call 65;(with_reducible refine (xrSound.calls a2_0 a2_1 a2_2 a2_3 true _ A7.out).mono ?_);rintro e w16 ⟨rfl,hb⟩;have n0_:=Aside0.mk (blk_below BK106.out hb);have n1_:=Aside0.mk (blk_below BK107.out hb);have n2_:=Aside0.mk (below_step HB.out hb);clear BK106;clear BK107;clear HB;have BK106:=n0_;have BK107:=n1_;have HB:=n2_;clear n0_ n1_ n2_;(try clear hb)))
     go_meet
     case rel=>exact ⟨_,(true),(by first | rfl | (simp;done) | (simp [*];done)),H',⟨by first | omega | exact Nat.le_refl _⟩,⟨BK106.out⟩,⟨BK107.out⟩,⟨HB.out⟩⟩
    ·rw [if_neg c13] at H
     have c13b0 : decide (6 < a0) = false:=decide_eq_false c13
     clear c13
     by_cases c17 : a0 = 6
     ·rw [if_pos c17] at H
      have c17b0 : (a0 == 6) = true:=beq_iff_eq.mpr c17
      have c17b1 : (a0 != 6) = false:=bne_eq_false_iff_eq.mpr c17
      clear c17
      by_cases c18 : a1 < 1
      ·rw [if_pos c18] at H
       have c18b0 : decide (a1 < 1) = true:=decide_eq_true c18
       clear c18
       have H':=Aside0.mk H
       clear H
       have hnb19:=NB106_107.out
       have hnc19:=NB107_106.out
       obtain ⟨hcz20_0,hcz20_1,hcz20_2,hcz20_3,hfz20_0,hfz20_1,hfz20_2,hfz20_3⟩:=blk_all4 BK106.out
       go_wp2_with (first | (go_at_call 65;(with_reducible refine (xrSound.calls a2_0 a2_1 a2_2 a2_3 true _ A7.out).mono ?_);rintro e w21 ⟨rfl,hb⟩;have n0_:=Aside0.mk (blk_below BK106.out hb);have n1_:=Aside0.mk (blk_below BK107.out hb);have n2_:=Aside0.mk (below_step HB.out hb);clear BK106;clear BK107;clear HB;have BK106:=n0_;have BK107:=n1_;have HB:=n2_;clear n0_ n1_ n2_;(try clear hb)))
       go_meet
       case rel=>exact ⟨_,(true),(by first | rfl | (simp;done) | (simp [*];done)),H',⟨by first | omega | exact Nat.le_refl _⟩,⟨BK106.out⟩,⟨BK107.out⟩,⟨HB.out⟩⟩
      ·rw [if_neg c18] at H
       have c18b0 : decide (a1 < 1) = false:=decide_eq_false c18
       clear c18
       have H':=Aside0.mk H
       clear H
       have hnb22:=NB106_107.out
       have hnc22:=NB107_106.out
       obtain ⟨hcz23_0,hcz23_1,hcz23_2,hcz23_3,hfz23_0,hfz23_1,hfz23_2,hfz23_3⟩:=blk_all4 BK106.out
       go_wp2_with (first | (go_at_call 65;(with_reducible refine (xrSound.calls a2_0 a2_1 a2_2 a2_3 true _ A7.out).mono ?_);rintro e w24 ⟨rfl,hb⟩;have n0_:=Aside0.mk (blk_below BK106.out hb);have n1_:=Aside0.mk (blk_below BK107.out hb);have n2_:=Aside0.mk (below_step HB.out hb);clear BK106;clear BK107;clear HB;have BK106:=n0_;have BK107:=n1_;have HB:=n2_;clear n0_ n1_ n2_;(try clear hb)))
       go_meet
       case rel=>exact ⟨_,(decide (a1 > 4)),(by first | rfl | (simp;done) | (simp [*];done)),H',⟨by first | omega | exact Nat.le_refl _⟩,⟨BK106.out⟩,⟨BK107.out⟩,⟨HB.out⟩⟩
     ·rw [if_neg c17] at H
      have c17b0 : (a0 == 6) = false:=beq_eq_false_iff_ne.mpr c17
      have c17b1 : (a0 != 6) = true:=bne_iff_ne.mpr c17
      have H':=Aside0.mk H
      clear H
      have hnb25:=NB106_107.out
      have hnc25:=NB107_106.out
      obtain ⟨hcz26_0,hcz26_1,hcz26_2,hcz26_3,hfz26_0,hfz26_1,hfz26_2,hfz26_3⟩:=blk_all4 BK106.out
      go_wp2_with (first | (go_at_call 65;(with_reducible refine (xrSound.calls a2_0 a2_1 a2_2 a2_3 true _ A7.out).mono ?_);rintro e w27 ⟨rfl,hb⟩;have n0_:=Aside0.mk (blk_below BK106.out hb);have n1_:=Aside0.mk (blk_below BK107.out hb);have n2_:=Aside0.mk (below_step HB.out hb);clear BK106;clear BK107;clear HB;have BK106:=n0_;have BK107:=n1_;have HB:=n2_;clear n0_ n1_ n2_;(try clear hb)))
      go_meet
      case rel=>exact ⟨_,(false),(by first | rfl | (simp;done) | (simp [*];done)),H',⟨by first | omega | exact Nat.le_refl _⟩,⟨BK106.out⟩,⟨BK107.out⟩,⟨HB.out⟩⟩
  ·replace c8:=Bool.eq_false_iff.mpr c8
   subst c8
   have H1 : (freshetref01_One.j0 k a0 a1 true a2_0 a2_1 a2_2 a2_3) = some (r1,r2,r3,r4,r5):=by rw [if_neg (show ¬ (false = true) by decide)] at H;exact H
   clear H
   have H:=H1
   clear H1
   have H':=Aside0.mk H
   clear H
   have hnb28:=NB106_107.out
   have hnc28:=NB107_106.out
   obtain ⟨hcz29_0,hcz29_1,hcz29_2,hcz29_3,hfz29_0,hfz29_1,hfz29_2,hfz29_3⟩:=blk_all4 BK106.out
   go_wp2_with (first | (go_at_call 65;(with_reducible refine (xrSound.calls a2_0 a2_1 a2_2 a2_3 false _ A7.out).mono ?_);rintro e w30 ⟨rfl,hb⟩;have n0_:=Aside0.mk (blk_below BK106.out hb);have n1_:=Aside0.mk (blk_below BK107.out hb);have n2_:=Aside0.mk (below_step HB.out hb);clear BK106;clear BK107;clear HB;have BK106:=n0_;have BK107:=n1_;have HB:=n2_;clear n0_ n1_ n2_;(try clear hb)))
   go_meet
   case rel=>exact ⟨_,(true),(by first | rfl | (simp;done) | (simp [*];done)),H',⟨by first | omega | exact Nat.le_refl _⟩,⟨BK106.out⟩,⟨BK107.out⟩,⟨HB.out⟩⟩
 case rest =>
  clear HC4
  try clear c1
  try clear c2
  try clear p2
  try clear c4
  try clear c6
  try clear c10
  try clear c14
  try clear c19
  try clear c22
  try clear c25
  try clear c28
  obtain ⟨kq,x30_3,rfl,HA,HJ3,BK106,BK107,HB⟩:=hcut
  cases kq with
  | zero=>exact absurd HA.out (by simp [freshetref01_One.j0])
  | succ kj3 =>
   have H:=HA.out
   clear HA
   simp only [freshetref01_One.j0] at H
   by_cases c31 : x30_3 = true
   ·subst c31
    have H1 : (some (0,0,0,(⟨#[]⟩ : ByteArray),1)) = some (r1,r2,r3,r4,r5):=by rw [if_pos rfl] at H;exact H
    clear H
    have H:=H1
    clear H1
    simp only [Option.some.injEq,Prod.mk.injEq] at H
    obtain ⟨rfl,rfl,rfl,rfl,rfl⟩:=H
    have hnb32:=NB107_106.out
    have hnc32:=NB106_107.out
    obtain ⟨hcz33_0,hcz33_1,hcz33_2,hcz33_3,hfz33_0,hfz33_1,hfz33_2,hfz33_3⟩:=blk_all4 BK107.out
    go_wp2
    refine bodyPost_ret (results_ct rfl _ _ gb107 29 #[.int .i64 0,.int .i64 0,.int .u64 0,.string (⟨#[]⟩ : ByteArray)] (0,0) _ rfl (blk_puts4 BK107.out rfl) Tryz.underlying29 rfl (by kernel_rfl)) rfl ?_
    exact ⟨by first | rfl | (simp [errW_none,errW_some] <;> rfl) | (simp [*,errW_none,errW_some] <;> rfl),by repeat (first | (with_reducible first | exact HB.out | apply below_alloc | apply pw_below_drewN | apply below_drew1 | refine below_set ?_ GE106.out | refine below_set ?_ GE107.out) | exact HB.out)⟩
   ·replace c31:=Bool.eq_false_iff.mpr c31
    subst c31
    have H1 : (if a0 = 5 then ((freshetref01_OfBool.f (a2_0 == 0)).bind fun bt109=>(some (bt109.1,bt109.2.1,bt109.2.2.1,bt109.2.2.2,0))) else (if a2_0 = 0 then (some (a2_0,a2_1,a2_2,a2_3,0)) else (if a0 = 6 then (if a2_0 = a1 then (some (a2_0,a2_1,a2_2,a2_3,0)) else ((xrCast.f a2_0 a2_1 a2_2 a2_3 a1).bind fun bt113=>(some (bt113.1,bt113.2.1,bt113.2.2.1,bt113.2.2.2.1,bt113.2.2.2.2)))) else (if a0 = 4 then (if a2_0 = 1 then ((freshetref01_OfBool.f (a2_1 == 0)).bind fun bt118=>(some (bt118.1,bt118.2.1,bt118.2.2.1,bt118.2.2.2,0))) else (some (0,0,0,(⟨#[]⟩ : ByteArray),1))) else (if a2_0 = 3 then ((freshetref01_OfFloat.f (Go.bits .xor .u64 a2_2 9223372036854775808)).bind fun bt122=>(some (bt122.1,bt122.2.1,bt122.2.2.1,bt122.2.2.2,0))) else (if a2_0 = 2 then (if a2_1 = (-9223372036854775808) then (some (0,0,0,(⟨#[]⟩ : ByteArray),11)) else ((freshetref01_OfInt.f (wrap64 (-a2_1))).bind fun bt126=>(some (bt126.1,bt126.2.1,bt126.2.2.1,bt126.2.2.2,0)))) else (some (0,0,0,(⟨#[]⟩ : ByteArray),1)))))))) = some (r1,r2,r3,r4,r5):=by rw [if_neg (show ¬ (false = true) by decide)] at H;exact H
    clear H
    have H:=H1
    clear H1
    by_cases c34 : a0 = 5
    ·rw [if_pos c34] at H
     have c34b0 : (a0 == 5) = true:=beq_iff_eq.mpr c34
     have c34b1 : (a0 != 5) = false:=bne_eq_false_iff_eq.mpr c34
     clear c34
     replace H:=Option.bind_eq_some_iff.mp H
     obtain ⟨⟨t109,t110,t111,t112⟩,A350,H⟩:=H
     replace H : (some (t109,t110,t111,t112,0)) = some (r1,r2,r3,r4,r5):=H
     have A35:=Aside0.mk A350
     clear A350
     simp only [Option.some.injEq,Prod.mk.injEq] at H
     obtain ⟨rfl,rfl,rfl,rfl,rfl⟩:=H
     have hnb36:=NB106_107.out
     have hnc36:=NB107_106.out
     obtain ⟨hcz37_0,hcz37_1,hcz37_2,hcz37_3,hfz37_0,hfz37_1,hfz37_2,hfz37_3⟩:=blk_all4 BK106.out
     go_wp2_with (first | (go_at_call 66;(with_reducible refine (freshetref01_OfBool.calls (a2_0 == 0) t109 t110 t111 t112 _ A35.out).mono ?_);rintro e w38 ⟨rfl,hb⟩;have n0_:=Aside0.mk (blk_below BK106.out hb);have n1_:=Aside0.mk (blk_below BK107.out hb);have n2_:=Aside0.mk (below_step HB.out hb);clear BK106;clear BK107;clear HB;have BK106:=n0_;have BK107:=n1_;have HB:=n2_;clear n0_ n1_ n2_;(try clear hb);obtain ⟨hcz39_0,hcz39_1,hcz39_2,hcz39_3,hfz39_0,hfz39_1,hfz39_2,hfz39_3⟩:=blk_all4 BK107.out))
     refine bodyPost_ret (results_ct rfl _ _ gb107 29 #[.int .i64 t109,.int .i64 t110,.int .u64 t111,.string t112] (0,0) _ rfl (blk_puts4 BK107.out rfl) Tryz.underlying29 rfl (by kernel_rfl)) rfl ?_
     exact ⟨by first | rfl | (simp [errW_none,errW_some] <;> rfl) | (simp [*,errW_none,errW_some] <;> rfl),by repeat (first | (with_reducible first | exact HB.out | apply below_alloc | apply pw_below_drewN | apply below_drew1 | refine below_set ?_ GE106.out | refine below_set ?_ GE107.out) | exact HB.out)⟩
    ·rw [if_neg c34] at H
     have c34b0 : (a0 == 5) = false:=beq_eq_false_iff_ne.mpr c34
     have c34b1 : (a0 != 5) = true:=bne_iff_ne.mpr c34
     by_cases c40 : a2_0 = 0
     ·rw [if_pos c40] at H
      have c40b0 : (a2_0 == 0) = true:=beq_iff_eq.mpr c40
      have c40b1 : (a2_0 != 0) = false:=bne_eq_false_iff_eq.mpr c40
      clear c40
      simp only [Option.some.injEq,Prod.mk.injEq] at H
      obtain ⟨rfl,rfl,rfl,rfl,rfl⟩:=H
      have hnb41:=NB106_107.out
      have hnc41:=NB107_106.out
      obtain ⟨hcz42_0,hcz42_1,hcz42_2,hcz42_3,hfz42_0,hfz42_1,hfz42_2,hfz42_3⟩:=blk_all4 BK106.out
      obtain ⟨hcz43_0,hcz43_1,hcz43_2,hcz43_3,hfz43_0,hfz43_1,hfz43_2,hfz43_3⟩:=blk_all4 BK107.out
      go_wp2
      refine bodyPost_ret (results_ct rfl _ _ gb107 29 #[.int .i64 a2_0,.int .i64 a2_1,.int .u64 a2_2,.string a2_3] (0,0) _ rfl (blk_puts4 BK107.out rfl) Tryz.underlying29 rfl (by kernel_rfl)) rfl ?_
      exact ⟨by first | rfl | (simp [errW_none,errW_some] <;> rfl) | (simp [*,errW_none,errW_some] <;> rfl),by repeat (first | (with_reducible first | exact HB.out | apply below_alloc | apply pw_below_drewN | apply below_drew1 | refine below_set ?_ GE106.out | refine below_set ?_ GE107.out) | exact HB.out)⟩
     ·rw [if_neg c40] at H
      have c40b0 : (a2_0 == 0) = false:=beq_eq_false_iff_ne.mpr c40
      have c40b1 : (a2_0 != 0) = true:=bne_iff_ne.mpr c40
      by_cases c44 : a0 = 6
      ·rw [if_pos c44] at H
       have c44b0 : (a0 == 6) = true:=beq_iff_eq.mpr c44
       have c44b1 : (a0 != 6) = false:=bne_eq_false_iff_eq.mpr c44
       clear c44
       by_cases c45 : a2_0 = a1
       ·rw [if_pos c45] at H
        have c45b0 : (a2_0 == a1) = true:=beq_iff_eq.mpr c45
        have c45b1 : (a2_0 != a1) = false:=bne_eq_false_iff_eq.mpr c45
        clear c45
        simp only [Option.some.injEq,Prod.mk.injEq] at H
        obtain ⟨rfl,rfl,rfl,rfl,rfl⟩:=H
        have hnb46:=NB106_107.out
        have hnc46:=NB107_106.out
        obtain ⟨hcz47_0,hcz47_1,hcz47_2,hcz47_3,hfz47_0,hfz47_1,hfz47_2,hfz47_3⟩:=blk_all4 BK106.out
        obtain ⟨hcz48_0,hcz48_1,hcz48_2,hcz48_3,hfz48_0,hfz48_1,hfz48_2,hfz48_3⟩:=blk_all4 BK107.out
        go_wp2
        refine bodyPost_ret (results_ct rfl _ _ gb107 29 #[.int .i64 a2_0,.int .i64 a2_1,.int .u64 a2_2,.string a2_3] (0,0) _ rfl (blk_puts4 BK107.out rfl) Tryz.underlying29 rfl (by kernel_rfl)) rfl ?_
        exact ⟨by first | rfl | (simp [errW_none,errW_some] <;> rfl) | (simp [*,errW_none,errW_some] <;> rfl),by repeat (first | (with_reducible first | exact HB.out | apply below_alloc | apply pw_below_drewN | apply below_drew1 | refine below_set ?_ GE106.out | refine below_set ?_ GE107.out) | exact HB.out)⟩
       ·rw [if_neg c45] at H
        have c45b0 : (a2_0 == a1) = false:=beq_eq_false_iff_ne.mpr c45
        have c45b1 : (a2_0 != a1) = true:=bne_iff_ne.mpr c45
        replace H:=Option.bind_eq_some_iff.mp H
        obtain ⟨⟨t113,t114,t115,t116,t117⟩,A490,H⟩:=H
        replace H : (some (t113,t114,t115,t116,t117)) = some (r1,r2,r3,r4,r5):=H
        have A49:=Aside0.mk A490
        clear A490
        simp only [Option.some.injEq,Prod.mk.injEq] at H
        obtain ⟨rfl,rfl,rfl,rfl,rfl⟩:=H
        have hnb50:=NB106_107.out
        have hnc50:=NB107_106.out
        obtain ⟨hcz51_0,hcz51_1,hcz51_2,hcz51_3,hfz51_0,hfz51_1,hfz51_2,hfz51_3⟩:=blk_all4 BK106.out
        go_wp2_with (first | (go_at_call 67;(with_reducible refine (xrCast.calls a2_0 a2_1 a2_2 a2_3 a1 t113 t114 t115 t116 t117 _ A49.out).mono ?_);rintro e w52 ⟨rfl,hb⟩;have n0_:=Aside0.mk (blk_below BK106.out hb);have n1_:=Aside0.mk (blk_below BK107.out hb);have n2_:=Aside0.mk (below_step HB.out hb);clear BK106;clear BK107;clear HB;have BK106:=n0_;have BK107:=n1_;have HB:=n2_;clear n0_ n1_ n2_;(try clear hb);obtain ⟨hcz53_0,hcz53_1,hcz53_2,hcz53_3,hfz53_0,hfz53_1,hfz53_2,hfz53_3⟩:=blk_all4 BK107.out))
        refine bodyPost_ret (results_ct rfl _ _ gb107 29 #[.int .i64 t113,.int .i64 t114,.int .u64 t115,.string t116] (0,0) _ rfl (blk_puts4 BK107.out rfl) Tryz.underlying29 rfl (by kernel_rfl)) rfl ?_
        exact ⟨by first | rfl | (simp [errW_none,errW_some] <;> rfl) | (simp [*,errW_none,errW_some] <;> rfl),by repeat (first | (with_reducible first | exact HB.out | apply below_alloc | apply pw_below_drewN | apply below_drew1 | refine below_set ?_ GE106.out | refine below_set ?_ GE107.out) | exact HB.out)⟩
      ·rw [if_neg c44] at H
       have c44b0 : (a0 == 6) = false:=beq_eq_false_iff_ne.mpr c44
       have c44b1 : (a0 != 6) = true:=bne_iff_ne.mpr c44
       by_cases c54 : a0 = 4
       ·rw [if_pos c54] at H
        have c54b0 : (a0 == 4) = true:=beq_iff_eq.mpr c54
        have c54b1 : (a0 != 4) = false:=bne_eq_false_iff_eq.mpr c54
        clear c54
        by_cases c55 : a2_0 = 1
        ·rw [if_pos c55] at H
         have c55b0 : (a2_0 == 1) = true:=beq_iff_eq.mpr c55
         have c55b1 : (a2_0 != 1) = false:=bne_eq_false_iff_eq.mpr c55
         clear c55
         replace H:=Option.bind_eq_some_iff.mp H
         obtain ⟨⟨t118,t119,t120,t121⟩,A560,H⟩:=H
         replace H : (some (t118,t119,t120,t121,0)) = some (r1,r2,r3,r4,r5):=H
         have A56:=Aside0.mk A560
         clear A560
         simp only [Option.some.injEq,Prod.mk.injEq] at H
         obtain ⟨rfl,rfl,rfl,rfl,rfl⟩:=H
         have hnb57:=NB106_107.out
         have hnc57:=NB107_106.out
         obtain ⟨hcz58_0,hcz58_1,hcz58_2,hcz58_3,hfz58_0,hfz58_1,hfz58_2,hfz58_3⟩:=blk_all4 BK106.out
         go_wp2_with (first | (go_at_call 66;(with_reducible refine (freshetref01_OfBool.calls (a2_1 == 0) t118 t119 t120 t121 _ A56.out).mono ?_);rintro e w59 ⟨rfl,hb⟩;have n0_:=Aside0.mk (blk_below BK106.out hb);have n1_:=Aside0.mk (blk_below BK107.out hb);have n2_:=Aside0.mk (below_step HB.out hb);clear BK106;clear BK107;clear HB;have BK106:=n0_;have BK107:=n1_;have HB:=n2_;clear n0_ n1_ n2_;(try clear hb);obtain ⟨hcz60_0,hcz60_1,hcz60_2,hcz60_3,hfz60_0,hfz60_1,hfz60_2,hfz60_3⟩:=blk_all4 BK107.out))
         refine bodyPost_ret (results_ct rfl _ _ gb107 29 #[.int .i64 t118,.int .i64 t119,.int .u64 t120,.string t121] (0,0) _ rfl (blk_puts4 BK107.out rfl) Tryz.underlying29 rfl (by kernel_rfl)) rfl ?_
         exact ⟨by first | rfl | (simp [errW_none,errW_some] <;> rfl) | (simp [*,errW_none,errW_some] <;> rfl),by repeat (first | (with_reducible first | exact HB.out | apply below_alloc | apply pw_below_drewN | apply below_drew1 | refine below_set ?_ GE106.out | refine below_set ?_ GE107.out) | exact HB.out)⟩
        ·rw [if_neg c55] at H
         have c55b0 : (a2_0 == 1) = false:=beq_eq_false_iff_ne.mpr c55
         have c55b1 : (a2_0 != 1) = true:=bne_iff_ne.mpr c55
         simp only [Option.some.injEq,Prod.mk.injEq] at H
         obtain ⟨rfl,rfl,rfl,rfl,rfl⟩:=H
         have hnb61:=NB106_107.out
         have hnc61:=NB107_106.out
         obtain ⟨hcz62_0,hcz62_1,hcz62_2,hcz62_3,hfz62_0,hfz62_1,hfz62_2,hfz62_3⟩:=blk_all4 BK106.out
         obtain ⟨hcz63_0,hcz63_1,hcz63_2,hcz63_3,hfz63_0,hfz63_1,hfz63_2,hfz63_3⟩:=blk_all4 BK107.out
         go_wp2
         refine bodyPost_ret (results_ct rfl _ _ gb107 29 #[.int .i64 0,.int .i64 0,.int .u64 0,.string (⟨#[]⟩ : ByteArray)] (0,0) _ rfl (blk_puts4 BK107.out rfl) Tryz.underlying29 rfl (by kernel_rfl)) rfl ?_
         exact ⟨by first | rfl | (simp [errW_none,errW_some] <;> rfl) | (simp [*,errW_none,errW_some] <;> rfl),by repeat (first | (with_reducible first | exact HB.out | apply below_alloc | apply pw_below_drewN | apply below_drew1 | refine below_set ?_ GE106.out | refine below_set ?_ GE107.out) | exact HB.out)⟩
       ·rw [if_neg c54] at H
        have c54b0 : (a0 == 4) = false:=beq_eq_false_iff_ne.mpr c54
        have c54b1 : (a0 != 4) = true:=bne_iff_ne.mpr c54
        by_cases c64 : a2_0 = 3
        ·rw [if_pos c64] at H
         have c64b0 : (a2_0 == 3) = true:=beq_iff_eq.mpr c64
         have c64b1 : (a2_0 != 3) = false:=bne_eq_false_iff_eq.mpr c64
         clear c64
         replace H:=Option.bind_eq_some_iff.mp H
         obtain ⟨⟨t122,t123,t124,t125⟩,A650,H⟩:=H
         replace H : (some (t122,t123,t124,t125,0)) = some (r1,r2,r3,r4,r5):=H
         have A65:=Aside0.mk A650
         clear A650
         simp only [Option.some.injEq,Prod.mk.injEq] at H
         obtain ⟨rfl,rfl,rfl,rfl,rfl⟩:=H
         have hnb66:=NB106_107.out
         have hnc66:=NB107_106.out
         obtain ⟨hcz67_0,hcz67_1,hcz67_2,hcz67_3,hfz67_0,hfz67_1,hfz67_2,hfz67_3⟩:=blk_all4 BK106.out
         go_wp2_with (first | (go_at_call 68;(with_reducible refine (freshetref01_OfFloat.calls (Go.bits .xor .u64 a2_2 9223372036854775808) t122 t123 t124 t125 _ A65.out).mono ?_);rintro e w68 ⟨rfl,hb⟩;have n0_:=Aside0.mk (blk_below BK106.out hb);have n1_:=Aside0.mk (blk_below BK107.out hb);have n2_:=Aside0.mk (below_step HB.out hb);clear BK106;clear BK107;clear HB;have BK106:=n0_;have BK107:=n1_;have HB:=n2_;clear n0_ n1_ n2_;(try clear hb);obtain ⟨hcz69_0,hcz69_1,hcz69_2,hcz69_3,hfz69_0,hfz69_1,hfz69_2,hfz69_3⟩:=blk_all4 BK107.out))
         refine bodyPost_ret (results_ct rfl _ _ gb107 29 #[.int .i64 t122,.int .i64 t123,.int .u64 t124,.string t125] (0,0) _ rfl (blk_puts4 BK107.out rfl) Tryz.underlying29 rfl (by kernel_rfl)) rfl ?_
         exact ⟨by first | rfl | (simp [errW_none,errW_some] <;> rfl) | (simp [*,errW_none,errW_some] <;> rfl),by repeat (first | (with_reducible first | exact HB.out | apply below_alloc | apply pw_below_drewN | apply below_drew1 | refine below_set ?_ GE106.out | refine below_set ?_ GE107.out) | exact HB.out)⟩
        ·rw [if_neg c64] at H
         have c64b0 : (a2_0 == 3) = false:=beq_eq_false_iff_ne.mpr c64
         have c64b1 : (a2_0 != 3) = true:=bne_iff_ne.mpr c64
         by_cases c70 : a2_0 = 2
         ·rw [if_pos c70] at H
          have c70b0 : (a2_0 == 2) = true:=beq_iff_eq.mpr c70
          have c70b1 : (a2_0 != 2) = false:=bne_eq_false_iff_eq.mpr c70
          clear c70
          by_cases c71 : a2_1 = (-9223372036854775808)
          ·rw [if_pos c71] at H
           have c71b0 : (a2_1 == (-9223372036854775808)) = true:=beq_iff_eq.mpr c71
           have c71b1 : (a2_1 != (-9223372036854775808)) = false:=bne_eq_false_iff_eq.mpr c71
           clear c71
           simp only [Option.some.injEq,Prod.mk.injEq] at H
           obtain ⟨rfl,rfl,rfl,rfl,rfl⟩:=H
           have hnb72:=NB106_107.out
           have hnc72:=NB107_106.out
           obtain ⟨hcz73_0,hcz73_1,hcz73_2,hcz73_3,hfz73_0,hfz73_1,hfz73_2,hfz73_3⟩:=blk_all4 BK106.out
           obtain ⟨hcz74_0,hcz74_1,hcz74_2,hcz74_3,hfz74_0,hfz74_1,hfz74_2,hfz74_3⟩:=blk_all4 BK107.out
           go_wp2
           refine bodyPost_ret (results_ct rfl _ _ gb107 29 #[.int .i64 0,.int .i64 0,.int .u64 0,.string (⟨#[]⟩ : ByteArray)] (0,0) _ rfl (blk_puts4 BK107.out rfl) Tryz.underlying29 rfl (by kernel_rfl)) rfl ?_
           exact ⟨by first | rfl | (simp [errW_none,errW_some] <;> rfl) | (simp [*,errW_none,errW_some] <;> rfl),by repeat (first | (with_reducible first | exact HB.out | apply below_alloc | apply pw_below_drewN | apply below_drew1 | refine below_set ?_ GE106.out | refine below_set ?_ GE107.out) | exact HB.out)⟩
          ·rw [if_neg c71] at H
           have c71b0 : (a2_1 == (-9223372036854775808)) = false:=beq_eq_false_iff_ne.mpr c71
           have c71b1 : (a2_1 != (-9223372036854775808)) = true:=bne_iff_ne.mpr c71
           replace H:=Option.bind_eq_some_iff.mp H
           obtain ⟨⟨t126,t127,t128,t129⟩,A750,H⟩:=H
           replace H : (some (t126,t127,t128,t129,0)) = some (r1,r2,r3,r4,r5):=H
           have A75:=Aside0.mk A750
           clear A750
           simp only [Option.some.injEq,Prod.mk.injEq] at H
           obtain ⟨rfl,rfl,rfl,rfl,rfl⟩:=H
           have hnb76:=NB106_107.out
           have hnc76:=NB107_106.out
           obtain ⟨hcz77_0,hcz77_1,hcz77_2,hcz77_3,hfz77_0,hfz77_1,hfz77_2,hfz77_3⟩:=blk_all4 BK106.out
           go_wp2_with (first | (go_at_call 69;(with_reducible refine (freshetref01_OfInt.calls (wrap64 (-a2_1)) t126 t127 t128 t129 _ A75.out).mono ?_);rintro e w78 ⟨rfl,hb⟩;have n0_:=Aside0.mk (blk_below BK106.out hb);have n1_:=Aside0.mk (blk_below BK107.out hb);have n2_:=Aside0.mk (below_step HB.out hb);clear BK106;clear BK107;clear HB;have BK106:=n0_;have BK107:=n1_;have HB:=n2_;clear n0_ n1_ n2_;(try clear hb);obtain ⟨hcz79_0,hcz79_1,hcz79_2,hcz79_3,hfz79_0,hfz79_1,hfz79_2,hfz79_3⟩:=blk_all4 BK107.out))
           refine bodyPost_ret (results_ct rfl _ _ gb107 29 #[.int .i64 t126,.int .i64 t127,.int .u64 t128,.string t129] (0,0) _ rfl (blk_puts4 BK107.out rfl) Tryz.underlying29 rfl (by kernel_rfl)) rfl ?_
           exact ⟨by first | rfl | (simp [errW_none,errW_some] <;> rfl) | (simp [*,errW_none,errW_some] <;> rfl),by repeat (first | (with_reducible first | exact HB.out | apply below_alloc | apply pw_below_drewN | apply below_drew1 | refine below_set ?_ GE106.out | refine below_set ?_ GE107.out) | exact HB.out)⟩
         ·rw [if_neg c70] at H
          have c70b0 : (a2_0 == 2) = false:=beq_eq_false_iff_ne.mpr c70
          have c70b1 : (a2_0 != 2) = true:=bne_iff_ne.mpr c70
          simp only [Option.some.injEq,Prod.mk.injEq] at H
          obtain ⟨rfl,rfl,rfl,rfl,rfl⟩:=H
          have hnb80:=NB106_107.out
          have hnc80:=NB107_106.out
          obtain ⟨hcz81_0,hcz81_1,hcz81_2,hcz81_3,hfz81_0,hfz81_1,hfz81_2,hfz81_3⟩:=blk_all4 BK106.out
          obtain ⟨hcz82_0,hcz82_1,hcz82_2,hcz82_3,hfz82_0,hfz82_1,hfz82_2,hfz82_3⟩:=blk_all4 BK107.out
          go_wp2
          refine bodyPost_ret (results_ct rfl _ _ gb107 29 #[.int .i64 0,.int .i64 0,.int .u64 0,.string (⟨#[]⟩ : ByteArray)] (0,0) _ rfl (blk_puts4 BK107.out rfl) Tryz.underlying29 rfl (by kernel_rfl)) rfl ?_
          exact ⟨by first | rfl | (simp [errW_none,errW_some] <;> rfl) | (simp [*,errW_none,errW_some] <;> rfl),by repeat (first | (with_reducible first | exact HB.out | apply below_alloc | apply pw_below_drewN | apply below_drew1 | refine below_set ?_ GE106.out | refine below_set ?_ GE107.out) | exact HB.out)⟩
end Go.Proofs.YtakcjiinchghaaaGreatDoor.PRZ
end
section
namespace Go.Proofs.YtakcjiinchghaaaGreatDoor.PRZ
open Go.RowKit Go.Proofs.YtakcjiinchghaaaGreatDoorW.PrintWords Go.Proofs.YtakcjiinchghaaaGreatDoorW.PrintLast Go.Proofs.YtakcjiinchghaaaGreatDoor.PRW
set_option linter.unusedVariables false
set_option linter.unusedSimpArgs false
attribute [local go_sem high] eqA29
mutual
def freshetref01_logic.j0 : Nat → Int → Bool → Int → Int → Int → ByteArray → Int → Int → Int → ByteArray → Option (Int × Int × Int × ByteArray × Int)
 | 0,_,_,_,_,_,_,_,_,_,_=>none
 | k + 1,x0,x16,x131000,x131001,x131002,x131003,x132000,x132001,x132002,x132003=>if x16 = true then (some (0,0,0,(⟨#[]⟩ : ByteArray),1)) else ((freshetref01_OfBool.f (x0 == 23)).bind fun bt133=>(if (x131000 == bt133.1 && (x131001 == bt133.2.1 && (x131002 == bt133.2.2.1 && (x131003.toList == bt133.2.2.2.toList)))) = true then (freshetref01_logic.j1 k x0 true x131000 x131001 x131002 x131003 x132000 x132001 x132002 x132003 bt133.1 bt133.2.1 bt133.2.2.1 bt133.2.2.2) else (freshetref01_logic.j1 k x0 (x132000 == bt133.1 && (x132001 == bt133.2.1 && (x132002 == bt133.2.2.1 && (x132003.toList == bt133.2.2.2.toList)))) x131000 x131001 x131002 x131003 x132000 x132001 x132002 x132003 bt133.1 bt133.2.1 bt133.2.2.1 bt133.2.2.2)))
def freshetref01_logic.j1 : Nat → Int → Bool → Int → Int → Int → ByteArray → Int → Int → Int → ByteArray → Int → Int → Int → ByteArray → Option (Int × Int × Int × ByteArray × Int)
 | 0,_,_,_,_,_,_,_,_,_,_,_,_,_,_=>none
 | k + 1,x0,x28,x131000,x131001,x131002,x131003,x132000,x132001,x132002,x132003,x138000,x138001,x138002,x138003=>if x28 = true then (some (x138000,x138001,x138002,x138003,0)) else (if x131000 = 0 then (some (0,0,0,(⟨#[]⟩ : ByteArray),0)) else (if x132000 = 0 then (some (0,0,0,(⟨#[]⟩ : ByteArray),0)) else ((freshetref01_OfBool.f (x0 == 22)).bind fun bt138=>(some (bt138.1,bt138.2.1,bt138.2.2.1,bt138.2.2.2,0)))))
end
def freshetref01_logic.f (k : Nat) (a0 : Int) (a1_0 : Int) (a1_1 : Int) (a1_2 : Int) (a1_3 : ByteArray) (a2_0 : Int) (a2_1 : Int) (a2_2 : Int) (a2_3 : ByteArray) : Option (Int × Int × Int × ByteArray × Int):=if a1_0 > 1 then (freshetref01_logic.j0 k a0 true a1_0 a1_1 a1_2 a1_3 a2_0 a2_1 a2_2 a2_3) else (freshetref01_logic.j0 k a0 (decide (a2_0 > 1)) a1_0 a1_1 a1_2 a1_3 a2_0 a2_1 a2_2 a2_3)
theorem freshetref01_logic.mono_l : ∀ k,(∀ y0 y1 y2 y3 y4 y5 y6 y7 y8 y9,LeO (freshetref01_logic.j0 k y0 y1 y2 y3 y4 y5 y6 y7 y8 y9) (freshetref01_logic.j0 (k + 1) y0 y1 y2 y3 y4 y5 y6 y7 y8 y9)) ∧ (∀ y0 y1 y2 y3 y4 y5 y6 y7 y8 y9 y10 y11 y12 y13,LeO (freshetref01_logic.j1 k y0 y1 y2 y3 y4 y5 y6 y7 y8 y9 y10 y11 y12 y13) (freshetref01_logic.j1 (k + 1) y0 y1 y2 y3 y4 y5 y6 y7 y8 y9 y10 y11 y12 y13))
 | 0=>⟨fun _ _ _ _ _ _ _ _ _ _ r h=>by simp [freshetref01_logic.j0] at h,fun _ _ _ _ _ _ _ _ _ _ _ _ _ _ r h=>by simp [freshetref01_logic.j1] at h⟩
 | k + 1=>by
  obtain ⟨ih0,ih1⟩:=freshetref01_logic.mono_l k
  refine ⟨?_, ?_⟩
  ·intro y0 y1 y2 y3 y4 y5 y6 y7 y8 y9
   unfold freshetref01_logic.j0
   repeat' first
   | (with_reducible exact ih0 _ _ _ _ _ _ _ _ _ _)
   | (with_reducible exact ih1 _ _ _ _ _ _ _ _ _ _ _ _ _ _)
   | (with_reducible exact LeO.refl _)
   | (with_reducible exact LeO.none _)
   | (with_reducible refine LeO.ite ?_ ?_)
   | (with_reducible refine LeO.bind ?_ (fun _=>?_))
   | exact ih0 _ _ _ _ _ _ _ _ _ _
   | exact ih1 _ _ _ _ _ _ _ _ _ _ _ _ _ _
   | exact LeO.none _
   | refine LeO.ite ?_ ?_
   | refine LeO.bind ?_ (fun _=>?_)
  ·intro y0 y1 y2 y3 y4 y5 y6 y7 y8 y9 y10 y11 y12 y13
   unfold freshetref01_logic.j1
   repeat' first
   | (with_reducible exact ih0 _ _ _ _ _ _ _ _ _ _)
   | (with_reducible exact ih1 _ _ _ _ _ _ _ _ _ _ _ _ _ _)
   | (with_reducible exact LeO.refl _)
   | (with_reducible exact LeO.none _)
   | (with_reducible refine LeO.ite ?_ ?_)
   | (with_reducible refine LeO.bind ?_ (fun _=>?_))
   | exact ih0 _ _ _ _ _ _ _ _ _ _
   | exact ih1 _ _ _ _ _ _ _ _ _ _ _ _ _ _
   | exact LeO.none _
   | refine LeO.ite ?_ ?_
   | refine LeO.bind ?_ (fun _=>?_)
theorem freshetref01_logic.mono : ∀ a0 a1 a2 a3 a4 a5 a6 a7 a8 k,LeO (freshetref01_logic.f k a0 a1 a2 a3 a4 a5 a6 a7 a8) (freshetref01_logic.f (k + 1) a0 a1 a2 a3 a4 a5 a6 a7 a8):=by
 intro a0 a1 a2 a3 a4 a5 a6 a7 a8 k
 obtain ⟨ih0,ih1⟩:=freshetref01_logic.mono_l k
 unfold freshetref01_logic.f
 repeat' first
   | (with_reducible exact ih0 _ _ _ _ _ _ _ _ _ _)
   | (with_reducible exact ih1 _ _ _ _ _ _ _ _ _ _ _ _ _ _)
   | (with_reducible exact LeO.refl _)
   | (with_reducible exact LeO.none _)
   | (with_reducible refine LeO.ite ?_ ?_)
   | (with_reducible refine LeO.bind ?_ (fun _=>?_))
   | exact ih0 _ _ _ _ _ _ _ _ _ _
   | exact ih1 _ _ _ _ _ _ _ _ _ _ _ _ _ _
   | exact LeO.none _
   | refine LeO.ite ?_ ?_
   | refine LeO.bind ?_ (fun _=>?_)
set_option maxHeartbeats 8000000 in
set_option maxRecDepth 100000 in
theorem freshetref01_logic.calls (k : Nat) (a0 : Int) (a1_0 : Int) (a1_1 : Int) (a1_2 : Int) (a1_3 : ByteArray) (a2_0 : Int) (a2_1 : Int) (a2_2 : Int) (a2_3 : ByteArray) (r1 : Int) (r2 : Int) (r3 : Int) (r4 : ByteArray) (r5 : Int) (w : World) (h : freshetref01_logic.f k a0 a1_0 a1_1 a1_2 a1_3 a2_0 a2_1 a2_2 a2_3 = some (r1,r2,r3,r4,r5)) :
  Calls Tryz.prog 70 #[.int .i64 a0,.agg #[.int .i64 a1_0,.int .i64 a1_1,.int .u64 a1_2,.string a1_3],.agg #[.int .i64 a2_0,.int .i64 a2_1,.int .u64 a2_2,.string a2_3]] w fun e w'=>e = .returned (.tuple #[.agg #[.int .i64 r1,.int .i64 r2,.int .u64 r3,.string r4],.int .i64 r5]) ∧ Below w.heap.size w w':=by
 have hu29:=Tryz.underlying29
 have HB:=Aside0.mk (Below.refl w.heap.size w)
 have H : (if a1_0 > 1 then (freshetref01_logic.j0 k a0 true a1_0 a1_1 a1_2 a1_3 a2_0 a2_1 a2_2 a2_3) else (freshetref01_logic.j0 k a0 (decide (a2_0 > 1)) a1_0 a1_1 a1_2 a1_3 a2_0 a2_1 a2_2 a2_3)) = some (r1,r2,r3,r4,r5):=h
 clear h
 have HC4:=Aside0.mk H
 clear H
 go_enter Tryz.func70,Tryz.ntmps70
 go_upto_region 1 with (first | ((with_reducible refine gate_dst (N:=4) rfl ?_);refine box_event ?hg (N:=4) ?hd (cs:=#[.int .i64 a1_0,.int .i64 a1_1,.int .u64 a1_2,.string a1_3]) (t:=29) ?hr ?_;(case hd=>rfl);(case hg=>rfl);(case hr=>first | (go_simp;done) | (go_simp;rfl));intro gb130 hg w5 hbox hb;have n0_:=Aside0.mk (below_step HB.out hb);have n1_:=Aside0.mk (hbox);have n2_:=Aside0.mk ((by rw [hg];exact (below_size HB.out) : w.heap.size ≤ gb130));have n3_:=Aside0.mk ((by rw [hg];exact (below_size HB.out) : w.heap.size ≤ gb130));clear HB;have HB:=n0_;have BK130:=n1_;have GW130:=n2_;have GE130:=n3_;clear n0_ n1_ n2_ n3_;clear hb hbox hg) | ((with_reducible refine gate_dst (N:=5) rfl ?_);refine box_event ?hg (N:=5) ?hd (cs:=#[.int .i64 a2_0,.int .i64 a2_1,.int .u64 a2_2,.string a2_3]) (t:=29) ?hr ?_;(case hd=>rfl);(case hg=>rfl);(case hr=>first | (go_simp;done) | (go_simp;rfl));intro gb131 hg w6 hbox hb;have n0_:=Aside0.mk (blk_below BK130.out hb);have n1_:=Aside0.mk (below_step HB.out hb);have n2_:=Aside0.mk (hbox);have n3_:=Aside0.mk ((by rw [hg];exact (below_size HB.out) : w.heap.size ≤ gb131));have n4_:=Aside0.mk ((by rw [hg];exact (below_size HB.out) : w.heap.size ≤ gb131));have n5_:=Aside0.mk ((by rw [hg];exact Nat.ne_of_lt (blk_lt (g:=gb130) (o:=.cells #[.int .i64 a1_0,.int .i64 a1_1,.int .u64 a1_2,.string a1_3] 29 (0,0)) BK130.out) : gb130 ≠ gb131));have n6_:=Aside0.mk ((by rw [hg];exact Nat.ne_of_gt (blk_lt (g:=gb130) (o:=.cells #[.int .i64 a1_0,.int .i64 a1_1,.int .u64 a1_2,.string a1_3] 29 (0,0)) BK130.out) : gb131 ≠ gb130));clear BK130;clear HB;have BK130:=n0_;have HB:=n1_;have BK131:=n2_;have GW131:=n3_;have GE131:=n4_;have NB130_131:=n5_;have NB131_130:=n6_;clear n0_ n1_ n2_ n3_ n4_ n5_ n6_;clear hb hbox hg) | ((with_reducible refine gate_dst (N:=6) rfl ?_);refine box_event ?hg (N:=6) ?hd (cs:=#[.int .i64 0,.int .i64 0,.int .u64 0,.string (⟨#[]⟩ : ByteArray)]) (t:=29) ?hr ?_;(case hd=>rfl);(case hg=>rfl);(case hr=>first | (go_simp;done) | (go_simp;rfl));intro gb132 hg w7 hbox hb;have n0_:=Aside0.mk (blk_below BK130.out hb);have n1_:=Aside0.mk (blk_below BK131.out hb);have n2_:=Aside0.mk (below_step HB.out hb);have n3_:=Aside0.mk (hbox);have n4_:=Aside0.mk ((by rw [hg];exact (below_size HB.out) : w.heap.size ≤ gb132));have n5_:=Aside0.mk ((by rw [hg];exact (below_size HB.out) : w.heap.size ≤ gb132));have n6_:=Aside0.mk ((by rw [hg];exact Nat.ne_of_lt (blk_lt (g:=gb130) (o:=.cells #[.int .i64 a1_0,.int .i64 a1_1,.int .u64 a1_2,.string a1_3] 29 (0,0)) BK130.out) : gb130 ≠ gb132));have n7_:=Aside0.mk ((by rw [hg];exact Nat.ne_of_gt (blk_lt (g:=gb130) (o:=.cells #[.int .i64 a1_0,.int .i64 a1_1,.int .u64 a1_2,.string a1_3] 29 (0,0)) BK130.out) : gb132 ≠ gb130));have n8_:=Aside0.mk ((by rw [hg];exact Nat.ne_of_lt (blk_lt (g:=gb131) (o:=.cells #[.int .i64 a2_0,.int .i64 a2_1,.int .u64 a2_2,.string a2_3] 29 (0,0)) BK131.out) : gb131 ≠ gb132));have n9_:=Aside0.mk ((by rw [hg];exact Nat.ne_of_gt (blk_lt (g:=gb131) (o:=.cells #[.int .i64 a2_0,.int .i64 a2_1,.int .u64 a2_2,.string a2_3] 29 (0,0)) BK131.out) : gb132 ≠ gb131));clear BK130;clear BK131;clear HB;have BK130:=n0_;have BK131:=n1_;have HB:=n2_;have BK132:=n3_;have GW132:=n4_;have GE132:=n5_;have NB130_132:=n6_;have NB132_130:=n7_;have NB131_132:=n8_;have NB132_131:=n9_;clear n0_ n1_ n2_ n3_ n4_ n5_ n6_ n7_ n8_ n9_;clear hb hbox hg))
 (try simp only [Act.put,List.setIfInBounds_toArray,List.set_cons_zero,List.set_cons_succ])
 go_cut [16] (fun v16 wc=>∃ (kq : Nat) (x16_3 : Bool),v16 = .bool x16_3 ∧ Aside0 (freshetref01_logic.j0 kq a0 x16_3 a1_0 a1_1 a1_2 a1_3 a2_0 a2_1 a2_2 a2_3 = some (r1,r2,r3,r4,r5)) ∧ Aside0 (kq ≤ k) ∧ Aside0 (wc.heap[gb130]? = some (.cells #[.int .i64 a1_0,.int .i64 a1_1,.int .u64 a1_2,.string a1_3] 29 (0,0))) ∧ Aside0 (wc.heap[gb131]? = some (.cells #[.int .i64 a2_0,.int .i64 a2_1,.int .u64 a2_2,.string a2_3] 29 (0,0))) ∧ Aside0 (wc.heap[gb132]? = some (.cells #[.int .i64 0,.int .i64 0,.int .u64 0,.string (⟨#[]⟩ : ByteArray)] 29 (0,0))) ∧ Aside0 (Below w.heap.size w wc))
 case first =>
  have H:=HC4.out
  clear HC4
  by_cases c8 : a1_0 > 1
  ·rw [if_pos c8] at H
   have c8b0 : decide (1 < a1_0) = true:=decide_eq_true c8
   clear c8
   (first | rw [c8b0] | (simp only [i64_w,i32_w];rw [c8b0]) | skip)
   have H':=Aside0.mk H
   clear H
   have hnb9:=NB130_131.out
   have hnc9:=NB131_130.out
   have hnb10:=NB130_132.out
   have hnc10:=NB132_130.out
   obtain ⟨hcz11_0,hcz11_1,hcz11_2,hcz11_3,hfz11_0,hfz11_1,hfz11_2,hfz11_3⟩:=blk_all4 BK130.out
   go_wp2
   go_meet
   case rel=>exact ⟨_,(true),(by first | rfl | (simp;done) | (simp [*];done)),H',⟨by first | omega | exact Nat.le_refl _⟩,⟨BK130.out⟩,⟨BK131.out⟩,⟨BK132.out⟩,⟨HB.out⟩⟩
  ·rw [if_neg c8] at H
   have c8b0 : decide (1 < a1_0) = false:=decide_eq_false c8
   clear c8
   (first | rw [c8b0] | (simp only [i64_w,i32_w];rw [c8b0]) | skip)
   have H':=Aside0.mk H
   clear H
   have hnb12:=NB130_131.out
   have hnc12:=NB131_130.out
   have hnb13:=NB130_132.out
   have hnc13:=NB132_130.out
   obtain ⟨hcz14_0,hcz14_1,hcz14_2,hcz14_3,hfz14_0,hfz14_1,hfz14_2,hfz14_3⟩:=blk_all4 BK130.out
   have hnb15:=NB131_132.out
   have hnc15:=NB132_131.out
   obtain ⟨hcz16_0,hcz16_1,hcz16_2,hcz16_3,hfz16_0,hfz16_1,hfz16_2,hfz16_3⟩:=blk_all4 BK131.out
   go_wp2
   go_meet
   case rel=>exact ⟨_,(decide (a2_0 > 1)),(by first | rfl | (simp;done) | (simp [*];done)),H',⟨by first | omega | exact Nat.le_refl _⟩,⟨BK130.out⟩,⟨BK131.out⟩,⟨BK132.out⟩,⟨HB.out⟩⟩
 case rest =>
  clear HC4
  try clear c1
  try clear p2
  try clear c7
  try clear c9
  try clear c10
  try clear c12
  try clear c13
  try clear c15
  obtain ⟨kq,x16_3,rfl,HA,HJ3,BK130,BK131,BK132,HB⟩:=hcut
  cases kq with
  | zero=>exact absurd HA.out (by simp [freshetref01_logic.j0])
  | succ kj3 =>
   have H:=HA.out
   clear HA
   simp only [freshetref01_logic.j0] at H
   by_cases c17 : x16_3 = true
   ·subst c17
    have H1 : (some (0,0,0,(⟨#[]⟩ : ByteArray),1)) = some (r1,r2,r3,r4,r5):=by rw [if_pos rfl] at H;exact H
    clear H
    have H:=H1
    clear H1
    simp only [Option.some.injEq,Prod.mk.injEq] at H
    obtain ⟨rfl,rfl,rfl,rfl,rfl⟩:=H
    have hnb18:=NB132_130.out
    have hnc18:=NB130_132.out
    have hnb19:=NB132_131.out
    have hnc19:=NB131_132.out
    obtain ⟨hcz20_0,hcz20_1,hcz20_2,hcz20_3,hfz20_0,hfz20_1,hfz20_2,hfz20_3⟩:=blk_all4 BK132.out
    go_wp2
    refine bodyPost_ret (results_ct rfl _ _ gb132 29 #[.int .i64 0,.int .i64 0,.int .u64 0,.string (⟨#[]⟩ : ByteArray)] (0,0) _ rfl (blk_puts4 BK132.out rfl) Tryz.underlying29 rfl (by kernel_rfl)) rfl ?_
    exact ⟨by first | rfl | (simp [errW_none,errW_some] <;> rfl) | (simp [*,errW_none,errW_some] <;> rfl),by repeat (first | (with_reducible first | exact HB.out | apply below_alloc | apply pw_below_drewN | apply below_drew1 | refine below_set ?_ GE130.out | refine below_set ?_ GE131.out | refine below_set ?_ GE132.out) | exact HB.out)⟩
   ·replace c17:=Bool.eq_false_iff.mpr c17
    subst c17
    have H1 : ((freshetref01_OfBool.f (a0 == 23)).bind fun bt133=>(if (a1_0 == bt133.1 && (a1_1 == bt133.2.1 && (a1_2 == bt133.2.2.1 && (a1_3.toList == bt133.2.2.2.toList)))) = true then (freshetref01_logic.j1 kj3 a0 true a1_0 a1_1 a1_2 a1_3 a2_0 a2_1 a2_2 a2_3 bt133.1 bt133.2.1 bt133.2.2.1 bt133.2.2.2) else (freshetref01_logic.j1 kj3 a0 (a2_0 == bt133.1 && (a2_1 == bt133.2.1 && (a2_2 == bt133.2.2.1 && (a2_3.toList == bt133.2.2.2.toList)))) a1_0 a1_1 a1_2 a1_3 a2_0 a2_1 a2_2 a2_3 bt133.1 bt133.2.1 bt133.2.2.1 bt133.2.2.2))) = some (r1,r2,r3,r4,r5):=by rw [if_neg (show ¬ (false = true) by decide)] at H;exact H
    clear H
    have H:=H1
    clear H1
    replace H:=Option.bind_eq_some_iff.mp H
    obtain ⟨⟨t133,t134,t135,t136⟩,A210,H⟩:=H
    replace H : (if (a1_0 == t133 && (a1_1 == t134 && (a1_2 == t135 && (a1_3.toList == t136.toList)))) = true then (freshetref01_logic.j1 kj3 a0 true a1_0 a1_1 a1_2 a1_3 a2_0 a2_1 a2_2 a2_3 t133 t134 t135 t136) else (freshetref01_logic.j1 kj3 a0 (a2_0 == t133 && (a2_1 == t134 && (a2_2 == t135 && (a2_3.toList == t136.toList)))) a1_0 a1_1 a1_2 a1_3 a2_0 a2_1 a2_2 a2_3 t133 t134 t135 t136)) = some (r1,r2,r3,r4,r5):=H
    have A21:=Aside0.mk A210
    clear A210
    have HC22:=Aside0.mk H
    clear H
    go_upto_region 4 with (first | (go_at_call 66;(with_reducible refine (freshetref01_OfBool.calls (a0 == 23) t133 t134 t135 t136 _ A21.out).mono ?_);rintro e w23 ⟨rfl,hb⟩;have n0_:=Aside0.mk (blk_below BK130.out hb);have n1_:=Aside0.mk (blk_below BK131.out hb);have n2_:=Aside0.mk (blk_below BK132.out hb);have n3_:=Aside0.mk (below_step HB.out hb);clear BK130;clear BK131;clear BK132;clear HB;have BK130:=n0_;have BK131:=n1_;have BK132:=n2_;have HB:=n3_;clear n0_ n1_ n2_ n3_;(try clear hb)) | ((with_reducible refine gate_dst (N:=8) rfl ?_);refine box_event ?hg (N:=8) ?hd (cs:=#[.int .i64 0,.int .i64 0,.int .u64 0,.string (⟨#[]⟩ : ByteArray)]) (t:=29) ?hr ?_;(case hd=>rfl);(case hg=>rfl);(case hr=>first | (go_simp;done) | (go_simp;rfl));intro gb137 hg w24 hbox hb;have n0_:=Aside0.mk (blk_below BK130.out hb);have n1_:=Aside0.mk (blk_below BK131.out hb);have n2_:=Aside0.mk (blk_below BK132.out hb);have n3_:=Aside0.mk (below_step HB.out hb);have n4_:=Aside0.mk (hbox);have n5_:=Aside0.mk ((by rw [hg];exact (below_size HB.out) : w.heap.size ≤ gb137));have n6_:=Aside0.mk ((by rw [hg];exact (below_size HB.out) : w.heap.size ≤ gb137));have n7_:=Aside0.mk ((by rw [hg];exact Nat.ne_of_lt (blk_lt (g:=gb130) (o:=.cells #[.int .i64 a1_0,.int .i64 a1_1,.int .u64 a1_2,.string a1_3] 29 (0,0)) BK130.out) : gb130 ≠ gb137));have n8_:=Aside0.mk ((by rw [hg];exact Nat.ne_of_gt (blk_lt (g:=gb130) (o:=.cells #[.int .i64 a1_0,.int .i64 a1_1,.int .u64 a1_2,.string a1_3] 29 (0,0)) BK130.out) : gb137 ≠ gb130));have n9_:=Aside0.mk ((by rw [hg];exact Nat.ne_of_lt (blk_lt (g:=gb131) (o:=.cells #[.int .i64 a2_0,.int .i64 a2_1,.int .u64 a2_2,.string a2_3] 29 (0,0)) BK131.out) : gb131 ≠ gb137));have n10_:=Aside0.mk ((by rw [hg];exact Nat.ne_of_gt (blk_lt (g:=gb131) (o:=.cells #[.int .i64 a2_0,.int .i64 a2_1,.int .u64 a2_2,.string a2_3] 29 (0,0)) BK131.out) : gb137 ≠ gb131));have n11_:=Aside0.mk ((by rw [hg];exact Nat.ne_of_lt (blk_lt (g:=gb132) (o:=.cells #[.int .i64 0,.int .i64 0,.int .u64 0,.string (⟨#[]⟩ : ByteArray)] 29 (0,0)) BK132.out) : gb132 ≠ gb137));have n12_:=Aside0.mk ((by rw [hg];exact Nat.ne_of_gt (blk_lt (g:=gb132) (o:=.cells #[.int .i64 0,.int .i64 0,.int .u64 0,.string (⟨#[]⟩ : ByteArray)] 29 (0,0)) BK132.out) : gb137 ≠ gb132));clear BK130;clear BK131;clear BK132;clear HB;have BK130:=n0_;have BK131:=n1_;have BK132:=n2_;have HB:=n3_;have BK137:=n4_;have GW137:=n5_;have GE137:=n6_;have NB130_137:=n7_;have NB137_130:=n8_;have NB131_137:=n9_;have NB137_131:=n10_;have NB132_137:=n11_;have NB137_132:=n12_;clear n0_ n1_ n2_ n3_ n4_ n5_ n6_ n7_ n8_ n9_ n10_ n11_ n12_;clear hb hbox hg;have hnb25:=NB137_130.out;have hnc25:=NB130_137.out;have hnb26:=NB137_131.out;have hnc26:=NB131_137.out;have hnb27:=NB137_132.out;have hnc27:=NB132_137.out;obtain ⟨hcz28_0,hcz28_1,hcz28_2,hcz28_3,hfz28_0,hfz28_1,hfz28_2,hfz28_3⟩:=blk_all4 BK137.out))
    (try simp only [Act.put,List.setIfInBounds_toArray,List.set_cons_zero,List.set_cons_succ])
    go_cut [28] (fun v28 wc=>∃ (kq : Nat) (x28_21 : Bool),v28 = .bool x28_21 ∧ Aside0 (freshetref01_logic.j1 kq a0 x28_21 a1_0 a1_1 a1_2 a1_3 a2_0 a2_1 a2_2 a2_3 t133 t134 t135 t136 = some (r1,r2,r3,r4,r5)) ∧ Aside0 (kq ≤ kj3) ∧ Aside0 (wc.heap[gb130]? = some (.cells #[.int .i64 a1_0,.int .i64 a1_1,.int .u64 a1_2,.string a1_3] 29 (0,0))) ∧ Aside0 (wc.heap[gb131]? = some (.cells #[.int .i64 a2_0,.int .i64 a2_1,.int .u64 a2_2,.string a2_3] 29 (0,0))) ∧ Aside0 (wc.heap[gb132]? = some (.cells #[.int .i64 0,.int .i64 0,.int .u64 0,.string (⟨#[]⟩ : ByteArray)] 29 (0,0))) ∧ Aside0 (wc.heap[gb137]? = some (.cells #[.int .i64 t133,.int .i64 t134,.int .u64 t135,.string t136] 29 (0,0))) ∧ Aside0 (Below w.heap.size w wc))
    case first =>
     have H:=HC22.out
     clear HC22
     by_cases c29 : (a1_0 == t133 && (a1_1 == t134 && (a1_2 == t135 && (a1_3.toList == t136.toList)))) = true
     ·rw [if_pos c29] at H
      have c29b0 : (a1_0 == t133 && (a1_1 == t134 && (a1_2 == t135 && (a1_3.toList == t136.toList)))) = true:=c29
      (try (have c29b1 : decide (a1_0 = t133 && (a1_1 == t134 && (a1_2 == t135 && (a1_3.toList == t136.toList)))) = true:=by simpa using c29))
      (try (have c29b2 : (a1_0 == t133 && (a1_1 == t134 && (a1_2 == t135 && (a1_3.toList == t136.toList)))) = true:=by simpa using c29))
      clear c29
      (first | rw [c29b0] | (simp only [i64_w,i32_w];rw [c29b0]) | skip)
      have H':=Aside0.mk H
      clear H
      have hnb30:=NB130_131.out
      have hnc30:=NB131_130.out
      have hnb31:=NB130_132.out
      have hnc31:=NB132_130.out
      have hnb32:=NB130_137.out
      have hnc32:=NB137_130.out
      obtain ⟨hcz33_0,hcz33_1,hcz33_2,hcz33_3,hfz33_0,hfz33_1,hfz33_2,hfz33_3⟩:=blk_all4 BK130.out
      have hnb34:=NB137_131.out
      have hnc34:=NB131_137.out
      have hnb35:=NB137_132.out
      have hnc35:=NB132_137.out
      obtain ⟨hcz36_0,hcz36_1,hcz36_2,hcz36_3,hfz36_0,hfz36_1,hfz36_2,hfz36_3⟩:=blk_all4 BK137.out
      go_wp2
      go_meet
      case rel=>exact ⟨_,(true),(by first | rfl | (simp;done) | (simp [*];done)),H',⟨by have:=HJ3.out;first | omega | exact Nat.le_refl _⟩,⟨by (with_reducible repeat (first | refine blk_drewN ?_ _ | refine blk_drew ?_ | refine blk_alloc ?_ _));refine blk_far ?_ NB130_137.out _;(with_reducible repeat (first | refine blk_drewN ?_ _ | refine blk_drew ?_ | refine blk_alloc ?_ _));refine blk_far ?_ NB130_137.out _;(with_reducible repeat (first | refine blk_drewN ?_ _ | refine blk_drew ?_ | refine blk_alloc ?_ _));refine blk_far ?_ NB130_137.out _;(with_reducible repeat (first | refine blk_drewN ?_ _ | refine blk_drew ?_ | refine blk_alloc ?_ _));refine blk_far ?_ NB130_137.out _;(with_reducible repeat (first | refine blk_drewN ?_ _ | refine blk_drew ?_ | refine blk_alloc ?_ _));exact BK130.out⟩,⟨by (with_reducible repeat (first | refine blk_drewN ?_ _ | refine blk_drew ?_ | refine blk_alloc ?_ _));refine blk_far ?_ NB131_137.out _;(with_reducible repeat (first | refine blk_drewN ?_ _ | refine blk_drew ?_ | refine blk_alloc ?_ _));refine blk_far ?_ NB131_137.out _;(with_reducible repeat (first | refine blk_drewN ?_ _ | refine blk_drew ?_ | refine blk_alloc ?_ _));refine blk_far ?_ NB131_137.out _;(with_reducible repeat (first | refine blk_drewN ?_ _ | refine blk_drew ?_ | refine blk_alloc ?_ _));refine blk_far ?_ NB131_137.out _;(with_reducible repeat (first | refine blk_drewN ?_ _ | refine blk_drew ?_ | refine blk_alloc ?_ _));exact BK131.out⟩,⟨by (with_reducible repeat (first | refine blk_drewN ?_ _ | refine blk_drew ?_ | refine blk_alloc ?_ _));refine blk_far ?_ NB132_137.out _;(with_reducible repeat (first | refine blk_drewN ?_ _ | refine blk_drew ?_ | refine blk_alloc ?_ _));refine blk_far ?_ NB132_137.out _;(with_reducible repeat (first | refine blk_drewN ?_ _ | refine blk_drew ?_ | refine blk_alloc ?_ _));refine blk_far ?_ NB132_137.out _;(with_reducible repeat (first | refine blk_drewN ?_ _ | refine blk_drew ?_ | refine blk_alloc ?_ _));refine blk_far ?_ NB132_137.out _;(with_reducible repeat (first | refine blk_drewN ?_ _ | refine blk_drew ?_ | refine blk_alloc ?_ _));exact BK132.out⟩,⟨by (with_reducible repeat (first | refine blk_drewN ?_ _ | refine blk_drew ?_ | refine blk_alloc ?_ _));refine blk_put (cs:=#[.int .i64 t133,.int .i64 t134,.int .u64 t135,.string (⟨#[]⟩ : ByteArray)]) ?_ 3 _ rfl;(with_reducible repeat (first | refine blk_drewN ?_ _ | refine blk_drew ?_ | refine blk_alloc ?_ _));refine blk_put (cs:=#[.int .i64 t133,.int .i64 t134,.int .u64 0,.string (⟨#[]⟩ : ByteArray)]) ?_ 2 _ rfl;(with_reducible repeat (first | refine blk_drewN ?_ _ | refine blk_drew ?_ | refine blk_alloc ?_ _));refine blk_put (cs:=#[.int .i64 t133,.int .i64 0,.int .u64 0,.string (⟨#[]⟩ : ByteArray)]) ?_ 1 _ rfl;(with_reducible repeat (first | refine blk_drewN ?_ _ | refine blk_drew ?_ | refine blk_alloc ?_ _));refine blk_put (cs:=#[.int .i64 0,.int .i64 0,.int .u64 0,.string (⟨#[]⟩ : ByteArray)]) ?_ 0 _ rfl;(with_reducible repeat (first | refine blk_drewN ?_ _ | refine blk_drew ?_ | refine blk_alloc ?_ _));exact BK137.out⟩,⟨by repeat (first | (with_reducible first | exact HB.out | apply below_alloc | apply pw_below_drewN | apply below_drew1 | refine below_set ?_ GE130.out | refine below_set ?_ GE131.out | refine below_set ?_ GE132.out | refine below_set ?_ GE137.out) | exact HB.out)⟩⟩
     ·rw [if_neg c29] at H
      have c29b0 : (a1_0 == t133 && (a1_1 == t134 && (a1_2 == t135 && (a1_3.toList == t136.toList)))) = false:=by simpa using c29
      (try (have c29b1 : decide (a1_0 = t133 && (a1_1 == t134 && (a1_2 == t135 && (a1_3.toList == t136.toList)))) = false:=by simpa using c29))
      (try (have c29b2 : (a1_0 == t133 && (a1_1 == t134 && (a1_2 == t135 && (a1_3.toList == t136.toList)))) = false:=by simpa using c29))
      (try (have c29b3 : ¬ (a1_0 = t133 && (a1_1 == t134 && (a1_2 == t135 && (a1_3.toList == t136.toList)))):=by simpa using c29))
      clear c29
      (first | rw [c29b0] | (simp only [i64_w,i32_w];rw [c29b0]) | skip)
      have H':=Aside0.mk H
      clear H
      have hnb37:=NB130_131.out
      have hnc37:=NB131_130.out
      have hnb38:=NB130_132.out
      have hnc38:=NB132_130.out
      have hnb39:=NB130_137.out
      have hnc39:=NB137_130.out
      obtain ⟨hcz40_0,hcz40_1,hcz40_2,hcz40_3,hfz40_0,hfz40_1,hfz40_2,hfz40_3⟩:=blk_all4 BK130.out
      have hnb41:=NB137_131.out
      have hnc41:=NB131_137.out
      have hnb42:=NB137_132.out
      have hnc42:=NB132_137.out
      obtain ⟨hcz43_0,hcz43_1,hcz43_2,hcz43_3,hfz43_0,hfz43_1,hfz43_2,hfz43_3⟩:=blk_all4 BK137.out
      have hnb44:=NB131_132.out
      have hnc44:=NB132_131.out
      obtain ⟨hcz45_0,hcz45_1,hcz45_2,hcz45_3,hfz45_0,hfz45_1,hfz45_2,hfz45_3⟩:=blk_all4 BK131.out
      go_wp2
      go_meet
      case rel=>exact ⟨_,((a2_0 == t133 && (a2_1 == t134 && (a2_2 == t135 && (a2_3.toList == t136.toList))))),(by first | rfl | (simp;done) | (simp [*];done)),H',⟨by have:=HJ3.out;first | omega | exact Nat.le_refl _⟩,⟨by (with_reducible repeat (first | refine blk_drewN ?_ _ | refine blk_drew ?_ | refine blk_alloc ?_ _));refine blk_far ?_ NB130_137.out _;(with_reducible repeat (first | refine blk_drewN ?_ _ | refine blk_drew ?_ | refine blk_alloc ?_ _));refine blk_far ?_ NB130_137.out _;(with_reducible repeat (first | refine blk_drewN ?_ _ | refine blk_drew ?_ | refine blk_alloc ?_ _));refine blk_far ?_ NB130_137.out _;(with_reducible repeat (first | refine blk_drewN ?_ _ | refine blk_drew ?_ | refine blk_alloc ?_ _));refine blk_far ?_ NB130_137.out _;(with_reducible repeat (first | refine blk_drewN ?_ _ | refine blk_drew ?_ | refine blk_alloc ?_ _));exact BK130.out⟩,⟨by (with_reducible repeat (first | refine blk_drewN ?_ _ | refine blk_drew ?_ | refine blk_alloc ?_ _));refine blk_far ?_ NB131_137.out _;(with_reducible repeat (first | refine blk_drewN ?_ _ | refine blk_drew ?_ | refine blk_alloc ?_ _));refine blk_far ?_ NB131_137.out _;(with_reducible repeat (first | refine blk_drewN ?_ _ | refine blk_drew ?_ | refine blk_alloc ?_ _));refine blk_far ?_ NB131_137.out _;(with_reducible repeat (first | refine blk_drewN ?_ _ | refine blk_drew ?_ | refine blk_alloc ?_ _));refine blk_far ?_ NB131_137.out _;(with_reducible repeat (first | refine blk_drewN ?_ _ | refine blk_drew ?_ | refine blk_alloc ?_ _));exact BK131.out⟩,⟨by (with_reducible repeat (first | refine blk_drewN ?_ _ | refine blk_drew ?_ | refine blk_alloc ?_ _));refine blk_far ?_ NB132_137.out _;(with_reducible repeat (first | refine blk_drewN ?_ _ | refine blk_drew ?_ | refine blk_alloc ?_ _));refine blk_far ?_ NB132_137.out _;(with_reducible repeat (first | refine blk_drewN ?_ _ | refine blk_drew ?_ | refine blk_alloc ?_ _));refine blk_far ?_ NB132_137.out _;(with_reducible repeat (first | refine blk_drewN ?_ _ | refine blk_drew ?_ | refine blk_alloc ?_ _));refine blk_far ?_ NB132_137.out _;(with_reducible repeat (first | refine blk_drewN ?_ _ | refine blk_drew ?_ | refine blk_alloc ?_ _));exact BK132.out⟩,⟨by (with_reducible repeat (first | refine blk_drewN ?_ _ | refine blk_drew ?_ | refine blk_alloc ?_ _));refine blk_put (cs:=#[.int .i64 t133,.int .i64 t134,.int .u64 t135,.string (⟨#[]⟩ : ByteArray)]) ?_ 3 _ rfl;(with_reducible repeat (first | refine blk_drewN ?_ _ | refine blk_drew ?_ | refine blk_alloc ?_ _));refine blk_put (cs:=#[.int .i64 t133,.int .i64 t134,.int .u64 0,.string (⟨#[]⟩ : ByteArray)]) ?_ 2 _ rfl;(with_reducible repeat (first | refine blk_drewN ?_ _ | refine blk_drew ?_ | refine blk_alloc ?_ _));refine blk_put (cs:=#[.int .i64 t133,.int .i64 0,.int .u64 0,.string (⟨#[]⟩ : ByteArray)]) ?_ 1 _ rfl;(with_reducible repeat (first | refine blk_drewN ?_ _ | refine blk_drew ?_ | refine blk_alloc ?_ _));refine blk_put (cs:=#[.int .i64 0,.int .i64 0,.int .u64 0,.string (⟨#[]⟩ : ByteArray)]) ?_ 0 _ rfl;(with_reducible repeat (first | refine blk_drewN ?_ _ | refine blk_drew ?_ | refine blk_alloc ?_ _));exact BK137.out⟩,⟨by repeat (first | (with_reducible first | exact HB.out | apply below_alloc | apply pw_below_drewN | apply below_drew1 | refine below_set ?_ GE130.out | refine below_set ?_ GE131.out | refine below_set ?_ GE132.out | refine below_set ?_ GE137.out) | exact HB.out)⟩⟩
    case rest =>
     clear HC22
     try clear c1
     try clear c2
     try clear p2
     try clear c3
     try clear c4
     try clear c6
     try clear c7
     try clear c8
     try clear c8b0
     try clear c9
     try clear c10
     try clear c12
     try clear c13
     try clear c15
     try clear c17
     try clear c18
     try clear c19
     try clear c25
     try clear c26
     try clear c27
     try clear c30
     try clear c31
     try clear c32
     try clear c34
     try clear c35
     try clear c37
     try clear c38
     try clear c39
     try clear c41
     try clear c42
     try clear c44
     try clear hcz11_0
     try clear hcz11_1
     try clear hcz11_2
     try clear hcz11_3
     try clear hcz14_0
     try clear hcz14_1
     try clear hcz14_2
     try clear hcz14_3
     try clear hcz16_0
     try clear hcz16_1
     try clear hcz16_2
     try clear hcz16_3
     try clear hcz20_0
     try clear hcz20_1
     try clear hcz20_2
     try clear hcz20_3
     try clear hcz28_0
     try clear hcz28_1
     try clear hcz28_2
     try clear hcz28_3
     try clear hfz11_0
     try clear hfz11_1
     try clear hfz11_2
     try clear hfz11_3
     try clear hfz14_0
     try clear hfz14_1
     try clear hfz14_2
     try clear hfz14_3
     try clear hfz16_0
     try clear hfz16_1
     try clear hfz16_2
     try clear hfz16_3
     try clear hfz20_0
     try clear hfz20_1
     try clear hfz20_2
     try clear hfz20_3
     try clear hfz28_0
     try clear hfz28_1
     try clear hfz28_2
     try clear hfz28_3
     try clear p2
     obtain ⟨kq,x28_21,rfl,HA,HJ21,BK130,BK131,BK132,BK137,HB⟩:=hcut
     cases kq with
     | zero=>exact absurd HA.out (by simp [freshetref01_logic.j1])
     | succ kj21 =>
      have H:=HA.out
      clear HA
      simp only [freshetref01_logic.j1] at H
      by_cases c46 : x28_21 = true
      ·subst c46
       have H1 : (some (t133,t134,t135,t136,0)) = some (r1,r2,r3,r4,r5):=by rw [if_pos rfl] at H;exact H
       clear H
       have H:=H1
       clear H1
       simp only [Option.some.injEq,Prod.mk.injEq] at H
       obtain ⟨rfl,rfl,rfl,rfl,rfl⟩:=H
       have hnb47:=NB137_130.out
       have hnc47:=NB130_137.out
       have hnb48:=NB137_131.out
       have hnc48:=NB131_137.out
       have hnb49:=NB137_132.out
       have hnc49:=NB132_137.out
       obtain ⟨hcz50_0,hcz50_1,hcz50_2,hcz50_3,hfz50_0,hfz50_1,hfz50_2,hfz50_3⟩:=blk_all4 BK137.out
       have hnb51:=NB132_130.out
       have hnc51:=NB130_132.out
       have hnb52:=NB132_131.out
       have hnc52:=NB131_132.out
       obtain ⟨hcz53_0,hcz53_1,hcz53_2,hcz53_3,hfz53_0,hfz53_1,hfz53_2,hfz53_3⟩:=blk_all4 BK132.out
       go_wp2
       refine bodyPost_ret (results_ct rfl _ _ gb132 29 #[.int .i64 t133,.int .i64 t134,.int .u64 t135,.string t136] (0,0) _ rfl (blk_puts4 BK132.out rfl) Tryz.underlying29 rfl (by kernel_rfl)) rfl ?_
       exact ⟨by first | rfl | (simp [errW_none,errW_some] <;> rfl) | (simp [*,errW_none,errW_some] <;> rfl),by repeat (first | (with_reducible first | exact HB.out | apply below_alloc | apply pw_below_drewN | apply below_drew1 | refine below_set ?_ GE130.out | refine below_set ?_ GE131.out | refine below_set ?_ GE132.out | refine below_set ?_ GE137.out) | exact HB.out)⟩
      ·replace c46:=Bool.eq_false_iff.mpr c46
       subst c46
       have H1 : (if a1_0 = 0 then (some (0,0,0,(⟨#[]⟩ : ByteArray),0)) else (if a2_0 = 0 then (some (0,0,0,(⟨#[]⟩ : ByteArray),0)) else ((freshetref01_OfBool.f (a0 == 22)).bind fun bt138=>(some (bt138.1,bt138.2.1,bt138.2.2.1,bt138.2.2.2,0))))) = some (r1,r2,r3,r4,r5):=by rw [if_neg (show ¬ (false = true) by decide)] at H;exact H
       clear H
       have H:=H1
       clear H1
       by_cases c54 : a1_0 = 0
       ·rw [if_pos c54] at H
        have c54b0 : (a1_0 == 0) = true:=beq_iff_eq.mpr c54
        have c54b1 : (a1_0 != 0) = false:=bne_eq_false_iff_eq.mpr c54
        clear c54
        simp only [Option.some.injEq,Prod.mk.injEq] at H
        obtain ⟨rfl,rfl,rfl,rfl,rfl⟩:=H
        have hnb55:=NB130_131.out
        have hnc55:=NB131_130.out
        have hnb56:=NB130_132.out
        have hnc56:=NB132_130.out
        have hnb57:=NB130_137.out
        have hnc57:=NB137_130.out
        obtain ⟨hcz58_0,hcz58_1,hcz58_2,hcz58_3,hfz58_0,hfz58_1,hfz58_2,hfz58_3⟩:=blk_all4 BK130.out
        have hnb59:=NB132_131.out
        have hnc59:=NB131_132.out
        have hnb60:=NB132_137.out
        have hnc60:=NB137_132.out
        obtain ⟨hcz61_0,hcz61_1,hcz61_2,hcz61_3,hfz61_0,hfz61_1,hfz61_2,hfz61_3⟩:=blk_all4 BK132.out
        go_wp2
        refine bodyPost_ret (results_ct rfl _ _ gb132 29 #[.int .i64 0,.int .i64 0,.int .u64 0,.string (⟨#[]⟩ : ByteArray)] (0,0) _ rfl (blk_puts4 BK132.out rfl) Tryz.underlying29 rfl (by kernel_rfl)) rfl ?_
        exact ⟨by first | rfl | (simp [errW_none,errW_some] <;> rfl) | (simp [*,errW_none,errW_some] <;> rfl),by repeat (first | (with_reducible first | exact HB.out | apply below_alloc | apply pw_below_drewN | apply below_drew1 | refine below_set ?_ GE130.out | refine below_set ?_ GE131.out | refine below_set ?_ GE132.out | refine below_set ?_ GE137.out) | exact HB.out)⟩
       ·rw [if_neg c54] at H
        have c54b0 : (a1_0 == 0) = false:=beq_eq_false_iff_ne.mpr c54
        have c54b1 : (a1_0 != 0) = true:=bne_iff_ne.mpr c54
        by_cases c62 : a2_0 = 0
        ·rw [if_pos c62] at H
         have c62b0 : (a2_0 == 0) = true:=beq_iff_eq.mpr c62
         have c62b1 : (a2_0 != 0) = false:=bne_eq_false_iff_eq.mpr c62
         clear c62
         simp only [Option.some.injEq,Prod.mk.injEq] at H
         obtain ⟨rfl,rfl,rfl,rfl,rfl⟩:=H
         have hnb63:=NB130_131.out
         have hnc63:=NB131_130.out
         have hnb64:=NB130_132.out
         have hnc64:=NB132_130.out
         have hnb65:=NB130_137.out
         have hnc65:=NB137_130.out
         obtain ⟨hcz66_0,hcz66_1,hcz66_2,hcz66_3,hfz66_0,hfz66_1,hfz66_2,hfz66_3⟩:=blk_all4 BK130.out
         have hnb67:=NB131_132.out
         have hnc67:=NB132_131.out
         have hnb68:=NB131_137.out
         have hnc68:=NB137_131.out
         obtain ⟨hcz69_0,hcz69_1,hcz69_2,hcz69_3,hfz69_0,hfz69_1,hfz69_2,hfz69_3⟩:=blk_all4 BK131.out
         have hnb70:=NB132_137.out
         have hnc70:=NB137_132.out
         obtain ⟨hcz71_0,hcz71_1,hcz71_2,hcz71_3,hfz71_0,hfz71_1,hfz71_2,hfz71_3⟩:=blk_all4 BK132.out
         go_wp2
         refine bodyPost_ret (results_ct rfl _ _ gb132 29 #[.int .i64 0,.int .i64 0,.int .u64 0,.string (⟨#[]⟩ : ByteArray)] (0,0) _ rfl (blk_puts4 BK132.out rfl) Tryz.underlying29 rfl (by kernel_rfl)) rfl ?_
         exact ⟨by first | rfl | (simp [errW_none,errW_some] <;> rfl) | (simp [*,errW_none,errW_some] <;> rfl),by repeat (first | (with_reducible first | exact HB.out | apply below_alloc | apply pw_below_drewN | apply below_drew1 | refine below_set ?_ GE130.out | refine below_set ?_ GE131.out | refine below_set ?_ GE132.out | refine below_set ?_ GE137.out) | exact HB.out)⟩
        ·rw [if_neg c62] at H
         have c62b0 : (a2_0 == 0) = false:=beq_eq_false_iff_ne.mpr c62
         have c62b1 : (a2_0 != 0) = true:=bne_iff_ne.mpr c62
         replace H:=Option.bind_eq_some_iff.mp H
         obtain ⟨⟨t138,t139,t140,t141⟩,A720,H⟩:=H
         replace H : (some (t138,t139,t140,t141,0)) = some (r1,r2,r3,r4,r5):=H
         have A72:=Aside0.mk A720
         clear A720
         simp only [Option.some.injEq,Prod.mk.injEq] at H
         obtain ⟨rfl,rfl,rfl,rfl,rfl⟩:=H
         have hnb73:=NB130_131.out
         have hnc73:=NB131_130.out
         have hnb74:=NB130_132.out
         have hnc74:=NB132_130.out
         have hnb75:=NB130_137.out
         have hnc75:=NB137_130.out
         obtain ⟨hcz76_0,hcz76_1,hcz76_2,hcz76_3,hfz76_0,hfz76_1,hfz76_2,hfz76_3⟩:=blk_all4 BK130.out
         have hnb77:=NB131_132.out
         have hnc77:=NB132_131.out
         have hnb78:=NB131_137.out
         have hnc78:=NB137_131.out
         obtain ⟨hcz79_0,hcz79_1,hcz79_2,hcz79_3,hfz79_0,hfz79_1,hfz79_2,hfz79_3⟩:=blk_all4 BK131.out
         go_wp2_with (first | (go_at_call 66;(with_reducible refine (freshetref01_OfBool.calls (a0 == 22) t138 t139 t140 t141 _ A72.out).mono ?_);rintro e w80 ⟨rfl,hb⟩;have n0_:=Aside0.mk (blk_below BK130.out hb);have n1_:=Aside0.mk (blk_below BK131.out hb);have n2_:=Aside0.mk (blk_below BK132.out hb);have n3_:=Aside0.mk (blk_below BK137.out hb);have n4_:=Aside0.mk (below_step HB.out hb);clear BK130;clear BK131;clear BK132;clear BK137;clear HB;have BK130:=n0_;have BK131:=n1_;have BK132:=n2_;have BK137:=n3_;have HB:=n4_;clear n0_ n1_ n2_ n3_ n4_;(try clear hb);have hnb81:=NB132_137.out;have hnc81:=NB137_132.out;obtain ⟨hcz82_0,hcz82_1,hcz82_2,hcz82_3,hfz82_0,hfz82_1,hfz82_2,hfz82_3⟩:=blk_all4 BK132.out))
         refine bodyPost_ret (results_ct rfl _ _ gb132 29 #[.int .i64 t138,.int .i64 t139,.int .u64 t140,.string t141] (0,0) _ rfl (blk_puts4 BK132.out rfl) Tryz.underlying29 rfl (by kernel_rfl)) rfl ?_
         exact ⟨by first | rfl | (simp [errW_none,errW_some] <;> rfl) | (simp [*,errW_none,errW_some] <;> rfl),by repeat (first | (with_reducible first | exact HB.out | apply below_alloc | apply pw_below_drewN | apply below_drew1 | refine below_set ?_ GE130.out | refine below_set ?_ GE131.out | refine below_set ?_ GE132.out | refine below_set ?_ GE137.out) | exact HB.out)⟩
def freshetref01_has.j0 : Nat → Int → Int → Bool → Option (Bool)
 | 0,_,_,_=>none
 | k + 1,x0,x1,x10=>if x10 = true then (some true) else (if x0 = 15 then (some (x1 == 4)) else (if x1 = 2 then (some true) else (if x1 = 3 then (some (x0 != 14)) else (some false))))
def freshetref01_has.f (k : Nat) (a0 : Int) (a1 : Int) : Option (Bool):=if a0 ≥ 16 then (freshetref01_has.j0 k a0 a1 (decide (a0 ≤ 21))) else (freshetref01_has.j0 k a0 a1 false)
theorem freshetref01_has.mono_l : ∀ k,(∀ y0 y1 y2,LeO (freshetref01_has.j0 k y0 y1 y2) (freshetref01_has.j0 (k + 1) y0 y1 y2))
 | 0=>fun _ _ _ r h=>by simp [freshetref01_has.j0] at h
 | k + 1=>by
  have ih0:=freshetref01_has.mono_l k
  ·intro y0 y1 y2
   unfold freshetref01_has.j0
   repeat' first
   | (with_reducible exact ih0 _ _ _)
   | (with_reducible exact LeO.refl _)
   | (with_reducible exact LeO.none _)
   | (with_reducible refine LeO.ite ?_ ?_)
   | (with_reducible refine LeO.bind ?_ (fun _=>?_))
   | exact ih0 _ _ _
   | exact LeO.none _
   | refine LeO.ite ?_ ?_
   | refine LeO.bind ?_ (fun _=>?_)
theorem freshetref01_has.mono : ∀ a0 a1 k,LeO (freshetref01_has.f k a0 a1) (freshetref01_has.f (k + 1) a0 a1):=by
 intro a0 a1 k
 have ih0:=freshetref01_has.mono_l k
 unfold freshetref01_has.f
 repeat' first
   | (with_reducible exact ih0 _ _ _)
   | (with_reducible exact LeO.refl _)
   | (with_reducible exact LeO.none _)
   | (with_reducible refine LeO.ite ?_ ?_)
   | (with_reducible refine LeO.bind ?_ (fun _=>?_))
   | exact ih0 _ _ _
   | exact LeO.none _
   | refine LeO.ite ?_ ?_
   | refine LeO.bind ?_ (fun _=>?_)
set_option maxHeartbeats 8000000 in
set_option maxRecDepth 100000 in
theorem freshetref01_has.calls (k : Nat) (a0 : Int) (a1 : Int) (r : Bool) (w : World) (h : freshetref01_has.f k a0 a1 = some r) :
  Calls Tryz.prog 71 #[.int .i64 a0,.int .i64 a1] w fun e w'=>e = .returned (.bool r) ∧ Drawn0 w w':=by
 have H : (if a0 ≥ 16 then (freshetref01_has.j0 k a0 a1 (decide (a0 ≤ 21))) else (freshetref01_has.j0 k a0 a1 false)) = some r:=h
 clear h
 have HC3:=Aside0.mk H
 clear H
 go_enter Tryz.func71,Tryz.ntmps71
 go_upto_region 1 with (fail)
 go_cut [10] (fun v10 wc=>∃ (kq : Nat) (x10_2 : Bool),v10 = .bool x10_2 ∧ Aside0 (freshetref01_has.j0 kq a0 a1 x10_2 = some r) ∧ Aside0 (kq ≤ k) ∧ Drawn0 w wc)
 case first =>
  have H:=HC3.out
  clear HC3
  by_cases c4 : a0 ≥ 16
  ·rw [if_pos c4] at H
   have c4b0 : decide (16 ≤ a0) = true:=decide_eq_true c4
   clear c4
   (first | rw [c4b0] | (simp only [i64_w,i32_w];rw [c4b0]) | skip)
   have H':=Aside0.mk H
   clear H
   go_wp2
   go_meet
   case rel=>exact ⟨_,(decide (a0 ≤ 21)),(by first | rfl | (simp;done) | (simp [*];done)),H',⟨by first | omega | exact Nat.le_refl _⟩,by repeat (first | exact Drawn0.refl _ | apply Drawn0.step)⟩
  ·rw [if_neg c4] at H
   have c4b0 : decide (16 ≤ a0) = false:=decide_eq_false c4
   clear c4
   (first | rw [c4b0] | (simp only [i64_w,i32_w];rw [c4b0]) | skip)
   have H':=Aside0.mk H
   clear H
   go_wp2
   go_meet
   case rel=>exact ⟨_,(false),(by first | rfl | (simp;done) | (simp [*];done)),H',⟨by first | omega | exact Nat.le_refl _⟩,by repeat (first | exact Drawn0.refl _ | apply Drawn0.step)⟩
 case rest =>
  clear HC3
  try clear p2
  obtain ⟨kq,x10_2,rfl,HA,HJ2,⟨mc2,rfl⟩⟩:=hcut
  cases kq with
  | zero=>exact absurd HA.out (by simp [freshetref01_has.j0])
  | succ kj2 =>
   have H:=HA.out
   clear HA
   simp only [freshetref01_has.j0] at H
   by_cases c5 : x10_2 = true
   ·subst c5
    have H1 : (some true) = some r:=by rw [if_pos rfl] at H;exact H
    clear H
    have H:=H1
    clear H1
    obtain rfl:=Option.some.inj H
    go_wp2
    go_ret
    exact ⟨by first | rfl | (simp;done) | (simp [*];done),by repeat (first | exact Drawn0.refl _ | apply Drawn0.step)⟩
   ·replace c5:=Bool.eq_false_iff.mpr c5
    subst c5
    have H1 : (if a0 = 15 then (some (a1 == 4)) else (if a1 = 2 then (some true) else (if a1 = 3 then (some (a0 != 14)) else (some false)))) = some r:=by rw [if_neg (show ¬ (false = true) by decide)] at H;exact H
    clear H
    have H:=H1
    clear H1
    by_cases c6 : a0 = 15
    ·rw [if_pos c6] at H
     have c6b0 : (a0 == 15) = true:=beq_iff_eq.mpr c6
     have c6b1 : (a0 != 15) = false:=bne_eq_false_iff_eq.mpr c6
     clear c6
     obtain rfl:=Option.some.inj H
     go_wp2
     go_ret
     exact ⟨by first | rfl | (simp;done) | (simp [*];done),by repeat (first | exact Drawn0.refl _ | apply Drawn0.step)⟩
    ·rw [if_neg c6] at H
     have c6b0 : (a0 == 15) = false:=beq_eq_false_iff_ne.mpr c6
     have c6b1 : (a0 != 15) = true:=bne_iff_ne.mpr c6
     by_cases c7 : a1 = 2
     ·rw [if_pos c7] at H
      have c7b0 : (a1 == 2) = true:=beq_iff_eq.mpr c7
      have c7b1 : (a1 != 2) = false:=bne_eq_false_iff_eq.mpr c7
      clear c7
      obtain rfl:=Option.some.inj H
      go_wp2
      go_ret
      exact ⟨by first | rfl | (simp;done) | (simp [*];done),by repeat (first | exact Drawn0.refl _ | apply Drawn0.step)⟩
     ·rw [if_neg c7] at H
      have c7b0 : (a1 == 2) = false:=beq_eq_false_iff_ne.mpr c7
      have c7b1 : (a1 != 2) = true:=bne_iff_ne.mpr c7
      by_cases c8 : a1 = 3
      ·rw [if_pos c8] at H
       have c8b0 : (a1 == 3) = true:=beq_iff_eq.mpr c8
       have c8b1 : (a1 != 3) = false:=bne_eq_false_iff_eq.mpr c8
       clear c8
       obtain rfl:=Option.some.inj H
       go_wp2
       go_ret
       exact ⟨by first | rfl | (simp;done) | (simp [*];done),by repeat (first | exact Drawn0.refl _ | apply Drawn0.step)⟩
      ·rw [if_neg c8] at H
       have c8b0 : (a1 == 3) = false:=beq_eq_false_iff_ne.mpr c8
       have c8b1 : (a1 != 3) = true:=bne_iff_ne.mpr c8
       obtain rfl:=Option.some.inj H
       go_wp2
       go_ret
       exact ⟨by first | rfl | (simp;done) | (simp [*];done),by repeat (first | exact Drawn0.refl _ | apply Drawn0.step)⟩
def freshetref01_OfText.f (a0 : ByteArray) : Option (Int × Int × Int × ByteArray × Int):=if (a0.size : Int) > 4096 then (some (0,0,0,(⟨#[]⟩ : ByteArray),12)) else (some (4,0,0,a0,0))
set_option maxHeartbeats 8000000 in
set_option maxRecDepth 100000 in
theorem freshetref01_OfText.calls (a0 : ByteArray) (r1 : Int) (r2 : Int) (r3 : Int) (r4 : ByteArray) (r5 : Int) (w : World) (h : freshetref01_OfText.f a0 = some (r1,r2,r3,r4,r5)) :
  Calls Tryz.prog 73 #[.string a0] w fun e w'=>e = .returned (.tuple #[.agg #[.int .i64 r1,.int .i64 r2,.int .u64 r3,.string r4],.int .i64 r5]) ∧ Below w.heap.size w w':=by
 have hu29:=Tryz.underlying29
 have HB:=Aside0.mk (Below.refl w.heap.size w)
 have H : (if (a0.size : Int) > 4096 then (some (0,0,0,(⟨#[]⟩ : ByteArray),12)) else (some (4,0,0,a0,0))) = some (r1,r2,r3,r4,r5):=h
 clear h
 by_cases c2 : (a0.size : Int) > 4096
 ·rw [if_pos c2] at H
  have c2b0 : decide (4096 < (a0.size : Int)) = true:=decide_eq_true c2
  have c2b1 : decide (4096 < a0.size) = true:=decide_eq_true (by omega)
  clear c2
  simp only [Option.some.injEq,Prod.mk.injEq] at H
  obtain ⟨rfl,rfl,rfl,rfl,rfl⟩:=H
  go_enter Tryz.func73,Tryz.ntmps73
  go_wp2_with (first | ((with_reducible refine gate_dst (N:=2) rfl ?_);refine box_event ?hg (N:=2) ?hd (cs:=#[.int .i64 0,.int .i64 0,.int .u64 0,.string (⟨#[]⟩ : ByteArray)]) (t:=29) ?hr ?_;(case hd=>rfl);(case hg=>rfl);(case hr=>first | (go_simp;done) | (go_simp;rfl));intro gb142 hg w3 hbox hb;have n0_:=Aside0.mk (below_step HB.out hb);have n1_:=Aside0.mk (hbox);have n2_:=Aside0.mk ((by rw [hg];exact (below_size HB.out) : w.heap.size ≤ gb142));have n3_:=Aside0.mk ((by rw [hg];exact (below_size HB.out) : w.heap.size ≤ gb142));clear HB;have HB:=n0_;have BK142:=n1_;have GW142:=n2_;have GE142:=n3_;clear n0_ n1_ n2_ n3_;clear hb hbox hg;obtain ⟨hcz4_0,hcz4_1,hcz4_2,hcz4_3,hfz4_0,hfz4_1,hfz4_2,hfz4_3⟩:=blk_all4 BK142.out))
  refine bodyPost_ret (results_ct rfl _ _ gb142 29 #[.int .i64 0,.int .i64 0,.int .u64 0,.string (⟨#[]⟩ : ByteArray)] (0,0) _ rfl (blk_puts4 BK142.out rfl) Tryz.underlying29 rfl (by kernel_rfl)) rfl ?_
  exact ⟨by first | rfl | (simp [errW_none,errW_some] <;> rfl) | (simp [*,errW_none,errW_some] <;> rfl),by repeat (first | (with_reducible first | exact HB.out | apply below_alloc | apply pw_below_drewN | apply below_drew1 | refine below_set ?_ GE142.out) | exact HB.out)⟩
 ·rw [if_neg c2] at H
  have c2b0 : decide (4096 < (a0.size : Int)) = false:=decide_eq_false c2
  have c2b1 : decide (4096 < a0.size) = false:=decide_eq_false (by omega)
  clear c2
  simp only [Option.some.injEq,Prod.mk.injEq] at H
  obtain ⟨rfl,rfl,rfl,rfl,rfl⟩:=H
  go_enter Tryz.func73,Tryz.ntmps73
  go_wp2_with (first | ((with_reducible refine gate_dst (N:=2) rfl ?_);refine box_event ?hg (N:=2) ?hd (cs:=#[.int .i64 0,.int .i64 0,.int .u64 0,.string (⟨#[]⟩ : ByteArray)]) (t:=29) ?hr ?_;(case hd=>rfl);(case hg=>rfl);(case hr=>first | (go_simp;done) | (go_simp;rfl));intro gb142 hg w5 hbox hb;have n0_:=Aside0.mk (below_step HB.out hb);have n1_:=Aside0.mk (hbox);have n2_:=Aside0.mk ((by rw [hg];exact (below_size HB.out) : w.heap.size ≤ gb142));have n3_:=Aside0.mk ((by rw [hg];exact (below_size HB.out) : w.heap.size ≤ gb142));clear HB;have HB:=n0_;have BK142:=n1_;have GW142:=n2_;have GE142:=n3_;clear n0_ n1_ n2_ n3_;clear hb hbox hg;obtain ⟨hcz6_0,hcz6_1,hcz6_2,hcz6_3,hfz6_0,hfz6_1,hfz6_2,hfz6_3⟩:=blk_all4 BK142.out))
  refine bodyPost_ret (results_ct rfl _ _ gb142 29 #[.int .i64 4,.int .i64 0,.int .u64 0,.string a0] (0,0) _ rfl (blk_puts4 BK142.out rfl) Tryz.underlying29 rfl (by kernel_rfl)) rfl ?_
  exact ⟨by first | rfl | (simp [errW_none,errW_some] <;> rfl) | (simp [*,errW_none,errW_some] <;> rfl),by repeat (first | (with_reducible first | exact HB.out | apply below_alloc | apply pw_below_drewN | apply below_drew1 | refine below_set ?_ GE142.out) | exact HB.out)⟩
end Go.Proofs.YtakcjiinchghaaaGreatDoor.PRZ
end
