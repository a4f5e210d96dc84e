/- a part of the claim: what the card leans on, out of the texts PRZx5 (put together by wip/tools/shake.py). -/
import Derived.Test.YtakcjiinchghaaaGreatDoorQE1
import Derived.Test.YtakcjiinchghaaaGreatDoorQE5
import Derived.Test.YtakcjiinchghaaaGreatDoorQE8
import Derived.Test.YtakcjiinchghaaaGreatDoorQE10
import Derived.Test.YtakcjiinchghaaaGreatDoorQE11
import Derived.Test.YtakcjiinchghaaaGreatDoorProg
import Derived.Below
import Derived.Deep.Draws
import Derived.Deep.AppendLies
import Derived.Maps.AppendAt
import Derived.OwnWalk
import Derived.Laws.BytesArg
import Derived.Laws.MakeOwn
import Derived.Laws.OwnMore
import Derived.Deep.OwnRows
import Derived.Tactics
import Derived.Lib.ConvBytes
import Derived.Laws.Slices
import Derived.WalkKit
import Derived.KernelRfl
import Derived.RowKit3
import Derived.Deep.LoopGhost
import Derived.Deep.QuietTactic
import Derived.BigQuiet
import Derived.WideLaws
import Derived.Deep.DeepCutAuto
import Derived.Deep.CutBlock
import Derived.Deep.RegionHeld3
import Derived.Laws.Rows
import Derived.Lib.AppendStr
import Derived.ArgAppend
import Derived.Laws.IdiomCopy
import Derived.OrdersHeld
import Derived.Laws.BitsLemmas
import Derived.RowKit
section
namespace Go.Proofs.YtakcjiinchghaaaGreatDoor.PRZ
open Go.RowKit Go.Proofs.YtakcjiinchghaaaGreatDoorW.PrintWords Go.Proofs.YtakcjiinchghaaaGreatDoorW.PrintLast Go.Proofs.YtakcjiinchghaaaGreatDoor.PRW
set_option linter.unusedVariables false
set_option linter.unusedSimpArgs false
mutual
def freshetref01_Two.j0 : Nat → Int → Bool → Int → Int → Int → ByteArray → Int → Int → Int → ByteArray → Option (Int × Int × Int × ByteArray × Int)
 | 0,_,_,_,_,_,_,_,_,_,_=>none
 | k + 1,x0,x24,x225000,x225001,x225002,x225003,x226000,x226001,x226002,x226003=>if x24 = true then (some (0,0,0,(⟨#[]⟩ : ByteArray),1)) else (if x0 = 22 then (freshetref01_Two.j1 k x0 true x225000 x225001 x225002 x225003 x226000 x226001 x226002 x226003) else (freshetref01_Two.j1 k x0 (x0 == 23) x225000 x225001 x225002 x225003 x226000 x226001 x226002 x226003))
def freshetref01_Two.j1 : Nat → Int → Bool → Int → Int → Int → ByteArray → Int → Int → Int → ByteArray → Option (Int × Int × Int × ByteArray × Int)
 | 0,_,_,_,_,_,_,_,_,_,_=>none
 | k + 1,x0,x31,x225000,x225001,x225002,x225003,x226000,x226001,x226002,x226003=>if x31 = true then ((freshetref01_logic.f k x0 x225000 x225001 x225002 x225003 x226000 x226001 x226002 x226003).bind fun bt229=>(some (bt229.1,bt229.2.1,bt229.2.2.1,bt229.2.2.2.1,bt229.2.2.2.2))) else (if x225000 = 0 then (freshetref01_Two.j2 k x0 false x225000 x225001 x225002 x225003 x226000 x226001 x226002 x226003) else (if x226000 = 0 then (freshetref01_Two.j2 k x0 false x225000 x225001 x225002 x225003 x226000 x226001 x226002 x226003) else (freshetref01_Two.j2 k x0 (x225000 != x226000) x225000 x225001 x225002 x225003 x226000 x226001 x226002 x226003)))
def freshetref01_Two.j2 : Nat → Int → Bool → Int → Int → Int → ByteArray → Int → Int → Int → ByteArray → Option (Int × Int × Int × ByteArray × Int)
 | 0,_,_,_,_,_,_,_,_,_,_=>none
 | k + 1,x0,x52,x225000,x225001,x225002,x225003,x226000,x226001,x226002,x226003=>if x52 = true then (some (0,0,0,(⟨#[]⟩ : ByteArray),1)) else (if x0 = 24 then (if x225000 = 0 then (some (x226000,x226001,x226002,x226003,0)) else (some (x225000,x225001,x225002,x225003,0))) else (if x225000 = 0 then (if x226000 = 0 then (freshetref01_Two.j3 k x0 false x225000 x225001 x225002 x225003 x226000 x226001 x226002 x226003) else ((freshetref01_has.f k x0 x226000).bind fun t234=>(freshetref01_Two.j3 k x0 (!t234) x225000 x225001 x225002 x225003 x226000 x226001 x226002 x226003))) else ((freshetref01_has.f k x0 x225000).bind fun t235=>(if t235 = true then (if x226000 = 0 then (freshetref01_Two.j3 k x0 false x225000 x225001 x225002 x225003 x226000 x226001 x226002 x226003) else ((freshetref01_has.f k x0 x226000).bind fun t236=>(freshetref01_Two.j3 k x0 (!t236) x225000 x225001 x225002 x225003 x226000 x226001 x226002 x226003))) else (freshetref01_Two.j3 k x0 true x225000 x225001 x225002 x225003 x226000 x226001 x226002 x226003)))))
def freshetref01_Two.j3 : Nat → Int → Bool → Int → Int → Int → ByteArray → Int → Int → Int → ByteArray → Option (Int × Int × Int × ByteArray × Int)
 | 0,_,_,_,_,_,_,_,_,_,_=>none
 | k + 1,x0,x82,x225000,x225001,x225002,x225003,x226000,x226001,x226002,x226003=>if x82 = true then (some (0,0,0,(⟨#[]⟩ : ByteArray),1)) else (if x225000 = 0 then (freshetref01_Two.j4 k x0 true x225000 x225001 x225002 x225003 x226000 x226001 x226002 x226003) else (freshetref01_Two.j4 k x0 (x226000 == 0) x225000 x225001 x225002 x225003 x226000 x226001 x226002 x226003))
def freshetref01_Two.j4 : Nat → Int → Bool → Int → Int → Int → ByteArray → Int → Int → Int → ByteArray → Option (Int × Int × Int × ByteArray × Int)
 | 0,_,_,_,_,_,_,_,_,_,_=>none
 | k + 1,x0,x91,x225000,x225001,x225002,x225003,x226000,x226001,x226002,x226003=>if x91 = true then (some (0,0,0,(⟨#[]⟩ : ByteArray),0)) else ((xrCompare.f x225000 x225001 x225002 x225003 x226000 x226001 x226002 x226003).bind fun t237=>(if x0 = 16 then ((freshetref01_OfBool.f (t237 == 0)).bind fun bt238=>(some (bt238.1,bt238.2.1,bt238.2.2.1,bt238.2.2.2,0))) else (if x0 = 17 then ((freshetref01_OfBool.f (t237 != 0)).bind fun bt242=>(some (bt242.1,bt242.2.1,bt242.2.2.1,bt242.2.2.2,0))) else (if x0 = 18 then ((freshetref01_OfBool.f (decide (t237 < 0))).bind fun bt246=>(some (bt246.1,bt246.2.1,bt246.2.2.1,bt246.2.2.2,0))) else (if x0 = 19 then ((freshetref01_OfBool.f (decide (t237 ≤ 0))).bind fun bt250=>(some (bt250.1,bt250.2.1,bt250.2.2.1,bt250.2.2.2,0))) else (if x0 = 20 then ((freshetref01_OfBool.f (decide (t237 > 0))).bind fun bt254=>(some (bt254.1,bt254.2.1,bt254.2.2.1,bt254.2.2.2,0))) else (if x0 = 21 then ((freshetref01_OfBool.f (decide (t237 ≥ 0))).bind fun bt258=>(some (bt258.1,bt258.2.1,bt258.2.2.1,bt258.2.2.2,0))) else (if x0 = 15 then (if x225003.size + x226003.size ≤ 9223372036854775807 then ((freshetref01_OfText.f (x225003 ++ x226003)).bind fun bt262=>(some (bt262.1,bt262.2.1,bt262.2.2.1,bt262.2.2.2.1,bt262.2.2.2.2))) else (none)) else (if x225000 = 3 then ((xrFloats.f x0 x225002 x226002).bind fun bt267=>(some (bt267.1,bt267.2.1,bt267.2.2.1,bt267.2.2.2,0))) else ((freshetref01_ints.f x0 x225001 x226001).bind fun bt271=>(some (bt271.1,bt271.2.1,bt271.2.2.1,bt271.2.2.2.1,bt271.2.2.2.2))))))))))))
end
def freshetref01_Two.f (k : Nat) (a0 : Int) (a1_0 : Int) (a1_1 : Int) (a1_2 : Int) (a1_3 : ByteArray) (a2_0 : Int) (a2_1 : Int) (a2_2 : Int) (a2_3 : ByteArray) : Option (Int × Int × Int × ByteArray × Int):=(xrSound.f a1_0 a1_1 a1_2 a1_3).bind fun t227=>(if t227 = true then ((xrSound.f a2_0 a2_1 a2_2 a2_3).bind fun t228=>(if t228 = true then (if a0 < 10 then (freshetref01_Two.j0 k a0 true a1_0 a1_1 a1_2 a1_3 a2_0 a2_1 a2_2 a2_3) else (freshetref01_Two.j0 k a0 (decide (a0 > 24)) a1_0 a1_1 a1_2 a1_3 a2_0 a2_1 a2_2 a2_3)) else (freshetref01_Two.j0 k a0 true a1_0 a1_1 a1_2 a1_3 a2_0 a2_1 a2_2 a2_3))) else (freshetref01_Two.j0 k a0 true a1_0 a1_1 a1_2 a1_3 a2_0 a2_1 a2_2 a2_3))
theorem freshetref01_Two.mono_l : ∀ k,(∀ y0 y1 y2 y3 y4 y5 y6 y7 y8 y9,LeO (freshetref01_Two.j0 k y0 y1 y2 y3 y4 y5 y6 y7 y8 y9) (freshetref01_Two.j0 (k + 1) y0 y1 y2 y3 y4 y5 y6 y7 y8 y9)) ∧ (∀ y0 y1 y2 y3 y4 y5 y6 y7 y8 y9,LeO (freshetref01_Two.j1 k y0 y1 y2 y3 y4 y5 y6 y7 y8 y9) (freshetref01_Two.j1 (k + 1) y0 y1 y2 y3 y4 y5 y6 y7 y8 y9)) ∧ (∀ y0 y1 y2 y3 y4 y5 y6 y7 y8 y9,LeO (freshetref01_Two.j2 k y0 y1 y2 y3 y4 y5 y6 y7 y8 y9) (freshetref01_Two.j2 (k + 1) y0 y1 y2 y3 y4 y5 y6 y7 y8 y9)) ∧ (∀ y0 y1 y2 y3 y4 y5 y6 y7 y8 y9,LeO (freshetref01_Two.j3 k y0 y1 y2 y3 y4 y5 y6 y7 y8 y9) (freshetref01_Two.j3 (k + 1) y0 y1 y2 y3 y4 y5 y6 y7 y8 y9)) ∧ (∀ y0 y1 y2 y3 y4 y5 y6 y7 y8 y9,LeO (freshetref01_Two.j4 k y0 y1 y2 y3 y4 y5 y6 y7 y8 y9) (freshetref01_Two.j4 (k + 1) y0 y1 y2 y3 y4 y5 y6 y7 y8 y9))
 | 0=>⟨fun _ _ _ _ _ _ _ _ _ _ r h=>by simp [freshetref01_Two.j0] at h,fun _ _ _ _ _ _ _ _ _ _ r h=>by simp [freshetref01_Two.j1] at h,fun _ _ _ _ _ _ _ _ _ _ r h=>by simp [freshetref01_Two.j2] at h,fun _ _ _ _ _ _ _ _ _ _ r h=>by simp [freshetref01_Two.j3] at h,fun _ _ _ _ _ _ _ _ _ _ r h=>by simp [freshetref01_Two.j4] at h⟩
 | k + 1=>by
  obtain ⟨ih0,ih1,ih2,ih3,ih4⟩:=freshetref01_Two.mono_l k
  refine ⟨?_, ?_, ?_, ?_, ?_⟩
  ·intro y0 y1 y2 y3 y4 y5 y6 y7 y8 y9
   unfold freshetref01_Two.j0
   repeat' first
   | (with_reducible exact ih0 _ _ _ _ _ _ _ _ _ _)
   | (with_reducible exact ih1 _ _ _ _ _ _ _ _ _ _)
   | (with_reducible exact ih2 _ _ _ _ _ _ _ _ _ _)
   | (with_reducible exact ih3 _ _ _ _ _ _ _ _ _ _)
   | (with_reducible exact ih4 _ _ _ _ _ _ _ _ _ _)
   | (with_reducible exact freshetref01_has.mono _ _ _)
   | (with_reducible exact freshetref01_logic.mono _ _ _ _ _ _ _ _ _ _)
   | (with_reducible exact LeO.refl _)
   | (with_reducible exact LeO.none _)
   | (with_reducible refine LeO.ite ?_ ?_)
   | (with_reducible refine LeO.bind ?_ (fun _=>?_))
   | exact ih0 _ _ _ _ _ _ _ _ _ _
   | exact ih1 _ _ _ _ _ _ _ _ _ _
   | exact ih2 _ _ _ _ _ _ _ _ _ _
   | exact ih3 _ _ _ _ _ _ _ _ _ _
   | exact ih4 _ _ _ _ _ _ _ _ _ _
   | exact freshetref01_has.mono _ _ _
   | exact freshetref01_logic.mono _ _ _ _ _ _ _ _ _ _
   | exact LeO.none _
   | refine LeO.ite ?_ ?_
   | refine LeO.bind ?_ (fun _=>?_)
  ·intro y0 y1 y2 y3 y4 y5 y6 y7 y8 y9
   unfold freshetref01_Two.j1
   repeat' first
   | (with_reducible exact ih0 _ _ _ _ _ _ _ _ _ _)
   | (with_reducible exact ih1 _ _ _ _ _ _ _ _ _ _)
   | (with_reducible exact ih2 _ _ _ _ _ _ _ _ _ _)
   | (with_reducible exact ih3 _ _ _ _ _ _ _ _ _ _)
   | (with_reducible exact ih4 _ _ _ _ _ _ _ _ _ _)
   | (with_reducible exact freshetref01_has.mono _ _ _)
   | (with_reducible exact freshetref01_logic.mono _ _ _ _ _ _ _ _ _ _)
   | (with_reducible exact LeO.refl _)
   | (with_reducible exact LeO.none _)
   | (with_reducible refine LeO.ite ?_ ?_)
   | (with_reducible refine LeO.bind ?_ (fun _=>?_))
   | exact ih0 _ _ _ _ _ _ _ _ _ _
   | exact ih1 _ _ _ _ _ _ _ _ _ _
   | exact ih2 _ _ _ _ _ _ _ _ _ _
   | exact ih3 _ _ _ _ _ _ _ _ _ _
   | exact ih4 _ _ _ _ _ _ _ _ _ _
   | exact freshetref01_has.mono _ _ _
   | exact freshetref01_logic.mono _ _ _ _ _ _ _ _ _ _
   | exact LeO.none _
   | refine LeO.ite ?_ ?_
   | refine LeO.bind ?_ (fun _=>?_)
  ·intro y0 y1 y2 y3 y4 y5 y6 y7 y8 y9
   unfold freshetref01_Two.j2
   repeat' first
   | (with_reducible exact ih0 _ _ _ _ _ _ _ _ _ _)
   | (with_reducible exact ih1 _ _ _ _ _ _ _ _ _ _)
   | (with_reducible exact ih2 _ _ _ _ _ _ _ _ _ _)
   | (with_reducible exact ih3 _ _ _ _ _ _ _ _ _ _)
   | (with_reducible exact ih4 _ _ _ _ _ _ _ _ _ _)
   | (with_reducible exact freshetref01_has.mono _ _ _)
   | (with_reducible exact freshetref01_logic.mono _ _ _ _ _ _ _ _ _ _)
   | (with_reducible exact LeO.refl _)
   | (with_reducible exact LeO.none _)
   | (with_reducible refine LeO.ite ?_ ?_)
   | (with_reducible refine LeO.bind ?_ (fun _=>?_))
   | exact ih0 _ _ _ _ _ _ _ _ _ _
   | exact ih1 _ _ _ _ _ _ _ _ _ _
   | exact ih2 _ _ _ _ _ _ _ _ _ _
   | exact ih3 _ _ _ _ _ _ _ _ _ _
   | exact ih4 _ _ _ _ _ _ _ _ _ _
   | exact freshetref01_has.mono _ _ _
   | exact freshetref01_logic.mono _ _ _ _ _ _ _ _ _ _
   | exact LeO.none _
   | refine LeO.ite ?_ ?_
   | refine LeO.bind ?_ (fun _=>?_)
  ·intro y0 y1 y2 y3 y4 y5 y6 y7 y8 y9
   unfold freshetref01_Two.j3
   repeat' first
   | (with_reducible exact ih0 _ _ _ _ _ _ _ _ _ _)
   | (with_reducible exact ih1 _ _ _ _ _ _ _ _ _ _)
   | (with_reducible exact ih2 _ _ _ _ _ _ _ _ _ _)
   | (with_reducible exact ih3 _ _ _ _ _ _ _ _ _ _)
   | (with_reducible exact ih4 _ _ _ _ _ _ _ _ _ _)
   | (with_reducible exact freshetref01_has.mono _ _ _)
   | (with_reducible exact freshetref01_logic.mono _ _ _ _ _ _ _ _ _ _)
   | (with_reducible exact LeO.refl _)
   | (with_reducible exact LeO.none _)
   | (with_reducible refine LeO.ite ?_ ?_)
   | (with_reducible refine LeO.bind ?_ (fun _=>?_))
   | exact ih0 _ _ _ _ _ _ _ _ _ _
   | exact ih1 _ _ _ _ _ _ _ _ _ _
   | exact ih2 _ _ _ _ _ _ _ _ _ _
   | exact ih3 _ _ _ _ _ _ _ _ _ _
   | exact ih4 _ _ _ _ _ _ _ _ _ _
   | exact freshetref01_has.mono _ _ _
   | exact freshetref01_logic.mono _ _ _ _ _ _ _ _ _ _
   | exact LeO.none _
   | refine LeO.ite ?_ ?_
   | refine LeO.bind ?_ (fun _=>?_)
  ·intro y0 y1 y2 y3 y4 y5 y6 y7 y8 y9
   unfold freshetref01_Two.j4
   repeat' first
   | (with_reducible exact ih0 _ _ _ _ _ _ _ _ _ _)
   | (with_reducible exact ih1 _ _ _ _ _ _ _ _ _ _)
   | (with_reducible exact ih2 _ _ _ _ _ _ _ _ _ _)
   | (with_reducible exact ih3 _ _ _ _ _ _ _ _ _ _)
   | (with_reducible exact ih4 _ _ _ _ _ _ _ _ _ _)
   | (with_reducible exact freshetref01_has.mono _ _ _)
   | (with_reducible exact freshetref01_logic.mono _ _ _ _ _ _ _ _ _ _)
   | (with_reducible exact LeO.refl _)
   | (with_reducible exact LeO.none _)
   | (with_reducible refine LeO.ite ?_ ?_)
   | (with_reducible refine LeO.bind ?_ (fun _=>?_))
   | exact ih0 _ _ _ _ _ _ _ _ _ _
   | exact ih1 _ _ _ _ _ _ _ _ _ _
   | exact ih2 _ _ _ _ _ _ _ _ _ _
   | exact ih3 _ _ _ _ _ _ _ _ _ _
   | exact ih4 _ _ _ _ _ _ _ _ _ _
   | exact freshetref01_has.mono _ _ _
   | exact freshetref01_logic.mono _ _ _ _ _ _ _ _ _ _
   | exact LeO.none _
   | refine LeO.ite ?_ ?_
   | refine LeO.bind ?_ (fun _=>?_)
theorem freshetref01_Two.mono : ∀ a0 a1 a2 a3 a4 a5 a6 a7 a8 k,LeO (freshetref01_Two.f k a0 a1 a2 a3 a4 a5 a6 a7 a8) (freshetref01_Two.f (k + 1) a0 a1 a2 a3 a4 a5 a6 a7 a8):=by
 intro a0 a1 a2 a3 a4 a5 a6 a7 a8 k
 obtain ⟨ih0,ih1,ih2,ih3,ih4⟩:=freshetref01_Two.mono_l k
 unfold freshetref01_Two.f
 repeat' first
   | (with_reducible exact ih0 _ _ _ _ _ _ _ _ _ _)
   | (with_reducible exact ih1 _ _ _ _ _ _ _ _ _ _)
   | (with_reducible exact ih2 _ _ _ _ _ _ _ _ _ _)
   | (with_reducible exact ih3 _ _ _ _ _ _ _ _ _ _)
   | (with_reducible exact ih4 _ _ _ _ _ _ _ _ _ _)
   | (with_reducible exact freshetref01_has.mono _ _ _)
   | (with_reducible exact freshetref01_logic.mono _ _ _ _ _ _ _ _ _ _)
   | (with_reducible exact LeO.refl _)
   | (with_reducible exact LeO.none _)
   | (with_reducible refine LeO.ite ?_ ?_)
   | (with_reducible refine LeO.bind ?_ (fun _=>?_))
   | exact ih0 _ _ _ _ _ _ _ _ _ _
   | exact ih1 _ _ _ _ _ _ _ _ _ _
   | exact ih2 _ _ _ _ _ _ _ _ _ _
   | exact ih3 _ _ _ _ _ _ _ _ _ _
   | exact ih4 _ _ _ _ _ _ _ _ _ _
   | exact freshetref01_has.mono _ _ _
   | exact freshetref01_logic.mono _ _ _ _ _ _ _ _ _ _
   | exact LeO.none _
   | refine LeO.ite ?_ ?_
   | refine LeO.bind ?_ (fun _=>?_)
set_option maxHeartbeats 8000000 in
set_option maxRecDepth 100000 in
theorem freshetref01_Two.calls (k : Nat) (a0 : Int) (a1_0 : Int) (a1_1 : Int) (a1_2 : Int) (a1_3 : ByteArray) (a2_0 : Int) (a2_1 : Int) (a2_2 : Int) (a2_3 : ByteArray) (r1 : Int) (r2 : Int) (r3 : Int) (r4 : ByteArray) (r5 : Int) (w : World) (h : freshetref01_Two.f k a0 a1_0 a1_1 a1_2 a1_3 a2_0 a2_1 a2_2 a2_3 = some (r1,r2,r3,r4,r5)) :
  Calls Tryz.prog 42 #[.int .i64 a0,.agg #[.int .i64 a1_0,.int .i64 a1_1,.int .u64 a1_2,.string a1_3],.agg #[.int .i64 a2_0,.int .i64 a2_1,.int .u64 a2_2,.string a2_3]] w fun e w'=>e = .returned (.tuple #[.agg #[.int .i64 r1,.int .i64 r2,.int .u64 r3,.string r4],.int .i64 r5]) ∧ Below w.heap.size w w':=by
 have hu29:=Tryz.underlying29
 have HB:=Aside0.mk (Below.refl w.heap.size w)
 have H : ((xrSound.f a1_0 a1_1 a1_2 a1_3).bind fun t227=>(if t227 = true then ((xrSound.f a2_0 a2_1 a2_2 a2_3).bind fun t228=>(if t228 = true then (if a0 < 10 then (freshetref01_Two.j0 k a0 true a1_0 a1_1 a1_2 a1_3 a2_0 a2_1 a2_2 a2_3) else (freshetref01_Two.j0 k a0 (decide (a0 > 24)) a1_0 a1_1 a1_2 a1_3 a2_0 a2_1 a2_2 a2_3)) else (freshetref01_Two.j0 k a0 true a1_0 a1_1 a1_2 a1_3 a2_0 a2_1 a2_2 a2_3))) else (freshetref01_Two.j0 k a0 true a1_0 a1_1 a1_2 a1_3 a2_0 a2_1 a2_2 a2_3))) = some (r1,r2,r3,r4,r5):=h
 clear h
 have HC4:=Aside0.mk H
 clear H
 go_enter Tryz.func42,Tryz.ntmps42
 go_upto_region 1 with (first | ((with_reducible refine gate_dst (N:=4) rfl ?_);refine box_event ?hg (N:=4) ?hd (cs:=#[.int .i64 a1_0,.int .i64 a1_1,.int .u64 a1_2,.string a1_3]) (t:=29) ?hr ?_;(case hd=>rfl);(case hg=>rfl);(case hr=>first | (go_simp;done) | (go_simp;rfl));intro gb224 hg w5 hbox hb;have n0_:=Aside0.mk (below_step HB.out hb);have n1_:=Aside0.mk (hbox);have n2_:=Aside0.mk ((by rw [hg];exact (below_size HB.out) : w.heap.size ≤ gb224));have n3_:=Aside0.mk ((by rw [hg];exact (below_size HB.out) : w.heap.size ≤ gb224));clear HB;have HB:=n0_;have BK224:=n1_;have GW224:=n2_;have GE224:=n3_;clear n0_ n1_ n2_ n3_;clear hb hbox hg) | ((with_reducible refine gate_dst (N:=5) rfl ?_);refine box_event ?hg (N:=5) ?hd (cs:=#[.int .i64 a2_0,.int .i64 a2_1,.int .u64 a2_2,.string a2_3]) (t:=29) ?hr ?_;(case hd=>rfl);(case hg=>rfl);(case hr=>first | (go_simp;done) | (go_simp;rfl));intro gb225 hg w6 hbox hb;have n0_:=Aside0.mk (blk_below BK224.out hb);have n1_:=Aside0.mk (below_step HB.out hb);have n2_:=Aside0.mk (hbox);have n3_:=Aside0.mk ((by rw [hg];exact (below_size HB.out) : w.heap.size ≤ gb225));have n4_:=Aside0.mk ((by rw [hg];exact (below_size HB.out) : w.heap.size ≤ gb225));have n5_:=Aside0.mk ((by rw [hg];exact Nat.ne_of_lt (blk_lt (g:=gb224) (o:=.cells #[.int .i64 a1_0,.int .i64 a1_1,.int .u64 a1_2,.string a1_3] 29 (0,0)) BK224.out) : gb224 ≠ gb225));have n6_:=Aside0.mk ((by rw [hg];exact Nat.ne_of_gt (blk_lt (g:=gb224) (o:=.cells #[.int .i64 a1_0,.int .i64 a1_1,.int .u64 a1_2,.string a1_3] 29 (0,0)) BK224.out) : gb225 ≠ gb224));clear BK224;clear HB;have BK224:=n0_;have HB:=n1_;have BK225:=n2_;have GW225:=n3_;have GE225:=n4_;have NB224_225:=n5_;have NB225_224:=n6_;clear n0_ n1_ n2_ n3_ n4_ n5_ n6_;clear hb hbox hg) | ((with_reducible refine gate_dst (N:=6) rfl ?_);refine box_event ?hg (N:=6) ?hd (cs:=#[.int .i64 0,.int .i64 0,.int .u64 0,.string (⟨#[]⟩ : ByteArray)]) (t:=29) ?hr ?_;(case hd=>rfl);(case hg=>rfl);(case hr=>first | (go_simp;done) | (go_simp;rfl));intro gb226 hg w7 hbox hb;have n0_:=Aside0.mk (blk_below BK224.out hb);have n1_:=Aside0.mk (blk_below BK225.out hb);have n2_:=Aside0.mk (below_step HB.out hb);have n3_:=Aside0.mk (hbox);have n4_:=Aside0.mk ((by rw [hg];exact (below_size HB.out) : w.heap.size ≤ gb226));have n5_:=Aside0.mk ((by rw [hg];exact (below_size HB.out) : w.heap.size ≤ gb226));have n6_:=Aside0.mk ((by rw [hg];exact Nat.ne_of_lt (blk_lt (g:=gb224) (o:=.cells #[.int .i64 a1_0,.int .i64 a1_1,.int .u64 a1_2,.string a1_3] 29 (0,0)) BK224.out) : gb224 ≠ gb226));have n7_:=Aside0.mk ((by rw [hg];exact Nat.ne_of_gt (blk_lt (g:=gb224) (o:=.cells #[.int .i64 a1_0,.int .i64 a1_1,.int .u64 a1_2,.string a1_3] 29 (0,0)) BK224.out) : gb226 ≠ gb224));have n8_:=Aside0.mk ((by rw [hg];exact Nat.ne_of_lt (blk_lt (g:=gb225) (o:=.cells #[.int .i64 a2_0,.int .i64 a2_1,.int .u64 a2_2,.string a2_3] 29 (0,0)) BK225.out) : gb225 ≠ gb226));have n9_:=Aside0.mk ((by rw [hg];exact Nat.ne_of_gt (blk_lt (g:=gb225) (o:=.cells #[.int .i64 a2_0,.int .i64 a2_1,.int .u64 a2_2,.string a2_3] 29 (0,0)) BK225.out) : gb226 ≠ gb225));clear BK224;clear BK225;clear HB;have BK224:=n0_;have BK225:=n1_;have HB:=n2_;have BK226:=n3_;have GW226:=n4_;have GE226:=n5_;have NB224_226:=n6_;have NB226_224:=n7_;have NB225_226:=n8_;have NB226_225:=n9_;clear n0_ n1_ n2_ n3_ n4_ n5_ n6_ n7_ n8_ n9_;clear hb hbox hg))
 (try simp only [Act.put,List.setIfInBounds_toArray,List.set_cons_zero,List.set_cons_succ])
 go_cut [24] (fun v24 wc=>∃ (kq : Nat) (x24_3 : Bool),v24 = .bool x24_3 ∧ Aside0 (freshetref01_Two.j0 kq a0 x24_3 a1_0 a1_1 a1_2 a1_3 a2_0 a2_1 a2_2 a2_3 = some (r1,r2,r3,r4,r5)) ∧ Aside0 (kq ≤ k) ∧ Aside0 (wc.heap[gb224]? = some (.cells #[.int .i64 a1_0,.int .i64 a1_1,.int .u64 a1_2,.string a1_3] 29 (0,0))) ∧ Aside0 (wc.heap[gb225]? = some (.cells #[.int .i64 a2_0,.int .i64 a2_1,.int .u64 a2_2,.string a2_3] 29 (0,0))) ∧ Aside0 (wc.heap[gb226]? = some (.cells #[.int .i64 0,.int .i64 0,.int .u64 0,.string (⟨#[]⟩ : ByteArray)] 29 (0,0))) ∧ Aside0 (Below w.heap.size w wc))
 case first =>
  have H:=HC4.out
  clear HC4
  replace H:=Option.bind_eq_some_iff.mp H
  obtain ⟨t227,A80,H⟩:=H
  replace H : (if t227 = true then ((xrSound.f a2_0 a2_1 a2_2 a2_3).bind fun t228=>(if t228 = true then (if a0 < 10 then (freshetref01_Two.j0 k a0 true a1_0 a1_1 a1_2 a1_3 a2_0 a2_1 a2_2 a2_3) else (freshetref01_Two.j0 k a0 (decide (a0 > 24)) a1_0 a1_1 a1_2 a1_3 a2_0 a2_1 a2_2 a2_3)) else (freshetref01_Two.j0 k a0 true a1_0 a1_1 a1_2 a1_3 a2_0 a2_1 a2_2 a2_3))) else (freshetref01_Two.j0 k a0 true a1_0 a1_1 a1_2 a1_3 a2_0 a2_1 a2_2 a2_3)) = some (r1,r2,r3,r4,r5):=H
  have A8:=Aside0.mk A80
  clear A80
  by_cases c9 : t227 = true
  ·subst c9
   have H1 : ((xrSound.f a2_0 a2_1 a2_2 a2_3).bind fun t228=>(if t228 = true then (if a0 < 10 then (freshetref01_Two.j0 k a0 true a1_0 a1_1 a1_2 a1_3 a2_0 a2_1 a2_2 a2_3) else (freshetref01_Two.j0 k a0 (decide (a0 > 24)) a1_0 a1_1 a1_2 a1_3 a2_0 a2_1 a2_2 a2_3)) else (freshetref01_Two.j0 k a0 true a1_0 a1_1 a1_2 a1_3 a2_0 a2_1 a2_2 a2_3))) = some (r1,r2,r3,r4,r5):=by rw [if_pos rfl] at H;exact H
   clear H
   have H:=H1
   clear H1
   replace H:=Option.bind_eq_some_iff.mp H
   obtain ⟨t228,A100,H⟩:=H
   replace H : (if t228 = true then (if a0 < 10 then (freshetref01_Two.j0 k a0 true a1_0 a1_1 a1_2 a1_3 a2_0 a2_1 a2_2 a2_3) else (freshetref01_Two.j0 k a0 (decide (a0 > 24)) a1_0 a1_1 a1_2 a1_3 a2_0 a2_1 a2_2 a2_3)) else (freshetref01_Two.j0 k a0 true a1_0 a1_1 a1_2 a1_3 a2_0 a2_1 a2_2 a2_3)) = some (r1,r2,r3,r4,r5):=H
   have A10:=Aside0.mk A100
   clear A100
   by_cases c11 : t228 = true
   ·subst c11
    have H1 : (if a0 < 10 then (freshetref01_Two.j0 k a0 true a1_0 a1_1 a1_2 a1_3 a2_0 a2_1 a2_2 a2_3) else (freshetref01_Two.j0 k a0 (decide (a0 > 24)) a1_0 a1_1 a1_2 a1_3 a2_0 a2_1 a2_2 a2_3)) = some (r1,r2,r3,r4,r5):=by rw [if_pos rfl] at H;exact H
    clear H
    have H:=H1
    clear H1
    by_cases c12 : a0 < 10
    ·rw [if_pos c12] at H
     have c12b0 : decide (a0 < 10) = true:=decide_eq_true c12
     clear c12
     (first | rw [c12b0] | (simp only [i64_w,i32_w];rw [c12b0]) | skip)
     have H':=Aside0.mk H
     clear H
     have hnb13:=NB224_225.out
     have hnc13:=NB225_224.out
     have hnb14:=NB224_226.out
     have hnc14:=NB226_224.out
     obtain ⟨hcz15_0,hcz15_1,hcz15_2,hcz15_3,hfz15_0,hfz15_1,hfz15_2,hfz15_3⟩:=blk_all4 BK224.out
     go_wp2_with (first | (go_at_call 65;(with_reducible refine (xrSound.calls a1_0 a1_1 a1_2 a1_3 true _ A8.out).mono ?_);rintro e w16 ⟨rfl,hb⟩;have n0_:=Aside0.mk (blk_below BK224.out hb);have n1_:=Aside0.mk (blk_below BK225.out hb);have n2_:=Aside0.mk (blk_below BK226.out hb);have n3_:=Aside0.mk (below_step HB.out hb);clear BK224;clear BK225;clear BK226;clear HB;have BK224:=n0_;have BK225:=n1_;have BK226:=n2_;have HB:=n3_;clear n0_ n1_ n2_ n3_;(try clear hb);have hnb17:=NB225_226.out;have hnc17:=NB226_225.out;obtain ⟨hcz18_0,hcz18_1,hcz18_2,hcz18_3,hfz18_0,hfz18_1,hfz18_2,hfz18_3⟩:=blk_all4 BK225.out) | (go_at_call 65;(with_reducible refine (xrSound.calls a2_0 a2_1 a2_2 a2_3 true _ A10.out).mono ?_);rintro e w19 ⟨rfl,hb⟩;have n0_:=Aside0.mk (blk_below BK224.out hb);have n1_:=Aside0.mk (blk_below BK225.out hb);have n2_:=Aside0.mk (blk_below BK226.out hb);have n3_:=Aside0.mk (below_step HB.out hb);clear BK224;clear BK225;clear BK226;clear HB;have BK224:=n0_;have BK225:=n1_;have BK226:=n2_;have HB:=n3_;clear n0_ n1_ n2_ n3_;(try clear hb)))
     go_meet
     case rel=>exact ⟨_,(true),(by first | rfl | (simp;done) | (simp [*];done)),H',⟨by first | omega | exact Nat.le_refl _⟩,⟨BK224.out⟩,⟨BK225.out⟩,⟨BK226.out⟩,⟨HB.out⟩⟩
    ·rw [if_neg c12] at H
     have c12b0 : decide (a0 < 10) = false:=decide_eq_false c12
     clear c12
     (first | rw [c12b0] | (simp only [i64_w,i32_w];rw [c12b0]) | skip)
     have H':=Aside0.mk H
     clear H
     have hnb20:=NB224_225.out
     have hnc20:=NB225_224.out
     have hnb21:=NB224_226.out
     have hnc21:=NB226_224.out
     obtain ⟨hcz22_0,hcz22_1,hcz22_2,hcz22_3,hfz22_0,hfz22_1,hfz22_2,hfz22_3⟩:=blk_all4 BK224.out
     go_wp2_with (first | (go_at_call 65;(with_reducible refine (xrSound.calls a1_0 a1_1 a1_2 a1_3 true _ A8.out).mono ?_);rintro e w23 ⟨rfl,hb⟩;have n0_:=Aside0.mk (blk_below BK224.out hb);have n1_:=Aside0.mk (blk_below BK225.out hb);have n2_:=Aside0.mk (blk_below BK226.out hb);have n3_:=Aside0.mk (below_step HB.out hb);clear BK224;clear BK225;clear BK226;clear HB;have BK224:=n0_;have BK225:=n1_;have BK226:=n2_;have HB:=n3_;clear n0_ n1_ n2_ n3_;(try clear hb);have hnb24:=NB225_226.out;have hnc24:=NB226_225.out;obtain ⟨hcz25_0,hcz25_1,hcz25_2,hcz25_3,hfz25_0,hfz25_1,hfz25_2,hfz25_3⟩:=blk_all4 BK225.out) | (go_at_call 65;(with_reducible refine (xrSound.calls a2_0 a2_1 a2_2 a2_3 true _ A10.out).mono ?_);rintro e w26 ⟨rfl,hb⟩;have n0_:=Aside0.mk (blk_below BK224.out hb);have n1_:=Aside0.mk (blk_below BK225.out hb);have n2_:=Aside0.mk (blk_below BK226.out hb);have n3_:=Aside0.mk (below_step HB.out hb);clear BK224;clear BK225;clear BK226;clear HB;have BK224:=n0_;have BK225:=n1_;have BK226:=n2_;have HB:=n3_;clear n0_ n1_ n2_ n3_;(try clear hb)))
     go_meet
     case rel=>exact ⟨_,(decide (a0 > 24)),(by first | rfl | (simp;done) | (simp [*];done)),H',⟨by first | omega | exact Nat.le_refl _⟩,⟨BK224.out⟩,⟨BK225.out⟩,⟨BK226.out⟩,⟨HB.out⟩⟩
   ·replace c11:=Bool.eq_false_iff.mpr c11
    subst c11
    have H1 : (freshetref01_Two.j0 k a0 true a1_0 a1_1 a1_2 a1_3 a2_0 a2_1 a2_2 a2_3) = some (r1,r2,r3,r4,r5):=by rw [if_neg (show ¬ (false = true) by decide)] at H;exact H
    clear H
    have H:=H1
    clear H1
    have H':=Aside0.mk H
    clear H
    have hnb27:=NB224_225.out
    have hnc27:=NB225_224.out
    have hnb28:=NB224_226.out
    have hnc28:=NB226_224.out
    obtain ⟨hcz29_0,hcz29_1,hcz29_2,hcz29_3,hfz29_0,hfz29_1,hfz29_2,hfz29_3⟩:=blk_all4 BK224.out
    go_wp2_with (first | (go_at_call 65;(with_reducible refine (xrSound.calls a1_0 a1_1 a1_2 a1_3 true _ A8.out).mono ?_);rintro e w30 ⟨rfl,hb⟩;have n0_:=Aside0.mk (blk_below BK224.out hb);have n1_:=Aside0.mk (blk_below BK225.out hb);have n2_:=Aside0.mk (blk_below BK226.out hb);have n3_:=Aside0.mk (below_step HB.out hb);clear BK224;clear BK225;clear BK226;clear HB;have BK224:=n0_;have BK225:=n1_;have BK226:=n2_;have HB:=n3_;clear n0_ n1_ n2_ n3_;(try clear hb);have hnb31:=NB225_226.out;have hnc31:=NB226_225.out;obtain ⟨hcz32_0,hcz32_1,hcz32_2,hcz32_3,hfz32_0,hfz32_1,hfz32_2,hfz32_3⟩:=blk_all4 BK225.out) | (go_at_call 65;(with_reducible refine (xrSound.calls a2_0 a2_1 a2_2 a2_3 false _ A10.out).mono ?_);rintro e w33 ⟨rfl,hb⟩;have n0_:=Aside0.mk (blk_below BK224.out hb);have n1_:=Aside0.mk (blk_below BK225.out hb);have n2_:=Aside0.mk (blk_below BK226.out hb);have n3_:=Aside0.mk (below_step HB.out hb);clear BK224;clear BK225;clear BK226;clear HB;have BK224:=n0_;have BK225:=n1_;have BK226:=n2_;have HB:=n3_;clear n0_ n1_ n2_ n3_;(try clear hb)))
    go_meet
    case rel=>exact ⟨_,(true),(by first | rfl | (simp;done) | (simp [*];done)),H',⟨by first | omega | exact Nat.le_refl _⟩,⟨BK224.out⟩,⟨BK225.out⟩,⟨BK226.out⟩,⟨HB.out⟩⟩
  ·replace c9:=Bool.eq_false_iff.mpr c9
   subst c9
   have H1 : (freshetref01_Two.j0 k a0 true a1_0 a1_1 a1_2 a1_3 a2_0 a2_1 a2_2 a2_3) = some (r1,r2,r3,r4,r5):=by rw [if_neg (show ¬ (false = true) by decide)] at H;exact H
   clear H
   have H:=H1
   clear H1
   have H':=Aside0.mk H
   clear H
   have hnb34:=NB224_225.out
   have hnc34:=NB225_224.out
   have hnb35:=NB224_226.out
   have hnc35:=NB226_224.out
   obtain ⟨hcz36_0,hcz36_1,hcz36_2,hcz36_3,hfz36_0,hfz36_1,hfz36_2,hfz36_3⟩:=blk_all4 BK224.out
   go_wp2_with (first | (go_at_call 65;(with_reducible refine (xrSound.calls a1_0 a1_1 a1_2 a1_3 false _ A8.out).mono ?_);rintro e w37 ⟨rfl,hb⟩;have n0_:=Aside0.mk (blk_below BK224.out hb);have n1_:=Aside0.mk (blk_below BK225.out hb);have n2_:=Aside0.mk (blk_below BK226.out hb);have n3_:=Aside0.mk (below_step HB.out hb);clear BK224;clear BK225;clear BK226;clear HB;have BK224:=n0_;have BK225:=n1_;have BK226:=n2_;have HB:=n3_;clear n0_ n1_ n2_ n3_;(try clear hb)))
   go_meet
   case rel=>exact ⟨_,(true),(by first | rfl | (simp;done) | (simp [*];done)),H',⟨by first | omega | exact Nat.le_refl _⟩,⟨BK224.out⟩,⟨BK225.out⟩,⟨BK226.out⟩,⟨HB.out⟩⟩
 case rest =>
  clear HC4
  try clear c1
  try clear c2
  try clear p2
  try clear c3
  try clear c4
  try clear c6
  try clear c13
  try clear c14
  try clear c17
  try clear c20
  try clear c21
  try clear c24
  try clear c27
  try clear c28
  try clear c31
  try clear c34
  try clear c35
  obtain ⟨kq,x24_3,rfl,HA,HJ3,BK224,BK225,BK226,HB⟩:=hcut
  cases kq with
  | zero=>exact absurd HA.out (by simp [freshetref01_Two.j0])
  | succ kj3 =>
   have H:=HA.out
   clear HA
   simp only [freshetref01_Two.j0] at H
   by_cases c38 : x24_3 = true
   ·subst c38
    have H1 : (some (0,0,0,(⟨#[]⟩ : ByteArray),1)) = some (r1,r2,r3,r4,r5):=by rw [if_pos rfl] at H;exact H
    clear H
    have H:=H1
    clear H1
    simp only [Option.some.injEq,Prod.mk.injEq] at H
    obtain ⟨rfl,rfl,rfl,rfl,rfl⟩:=H
    have hnb39:=NB226_224.out
    have hnc39:=NB224_226.out
    have hnb40:=NB226_225.out
    have hnc40:=NB225_226.out
    obtain ⟨hcz41_0,hcz41_1,hcz41_2,hcz41_3,hfz41_0,hfz41_1,hfz41_2,hfz41_3⟩:=blk_all4 BK226.out
    go_wp2
    refine bodyPost_ret (results_ct rfl _ _ gb226 29 #[.int .i64 0,.int .i64 0,.int .u64 0,.string (⟨#[]⟩ : ByteArray)] (0,0) _ rfl (blk_puts4 BK226.out rfl) Tryz.underlying29 rfl (by kernel_rfl)) rfl ?_
    exact ⟨by first | rfl | (simp [errW_none,errW_some] <;> rfl) | (simp [*,errW_none,errW_some] <;> rfl),by repeat (first | (with_reducible first | exact HB.out | apply below_alloc | apply pw_below_drewN | apply below_drew1 | refine below_set ?_ GE224.out | refine below_set ?_ GE225.out | refine below_set ?_ GE226.out) | exact HB.out)⟩
   ·replace c38:=Bool.eq_false_iff.mpr c38
    subst c38
    have H1 : (if a0 = 22 then (freshetref01_Two.j1 kj3 a0 true a1_0 a1_1 a1_2 a1_3 a2_0 a2_1 a2_2 a2_3) else (freshetref01_Two.j1 kj3 a0 (a0 == 23) a1_0 a1_1 a1_2 a1_3 a2_0 a2_1 a2_2 a2_3)) = some (r1,r2,r3,r4,r5):=by rw [if_neg (show ¬ (false = true) by decide)] at H;exact H
    clear H
    have H:=H1
    clear H1
    have HC42:=Aside0.mk H
    clear H
    go_upto_region 3 with (fail)
    go_cut [31] (fun v31 wc=>∃ (kq : Nat) (x31_41 : Bool),v31 = .bool x31_41 ∧ Aside0 (freshetref01_Two.j1 kq a0 x31_41 a1_0 a1_1 a1_2 a1_3 a2_0 a2_1 a2_2 a2_3 = some (r1,r2,r3,r4,r5)) ∧ Aside0 (kq ≤ kj3) ∧ Aside0 (wc.heap[gb224]? = some (.cells #[.int .i64 a1_0,.int .i64 a1_1,.int .u64 a1_2,.string a1_3] 29 (0,0))) ∧ Aside0 (wc.heap[gb225]? = some (.cells #[.int .i64 a2_0,.int .i64 a2_1,.int .u64 a2_2,.string a2_3] 29 (0,0))) ∧ Aside0 (wc.heap[gb226]? = some (.cells #[.int .i64 0,.int .i64 0,.int .u64 0,.string (⟨#[]⟩ : ByteArray)] 29 (0,0))) ∧ Aside0 (Below w.heap.size w wc))
    case first =>
     have H:=HC42.out
     clear HC42
     by_cases c43 : a0 = 22
     ·rw [if_pos c43] at H
      have c43b0 : (a0 == 22) = true:=beq_iff_eq.mpr c43
      have c43b1 : (a0 != 22) = false:=bne_eq_false_iff_eq.mpr c43
      clear c43
      (first | rw [c43b0] | (simp only [i64_w,i32_w];rw [c43b0]) | skip)
      have H':=Aside0.mk H
      clear H
      go_wp2
      go_meet
      case rel=>exact ⟨_,(true),(by first | rfl | (simp;done) | (simp [*];done)),H',⟨by have:=HJ3.out;first | omega | exact Nat.le_refl _⟩,⟨BK224.out⟩,⟨BK225.out⟩,⟨BK226.out⟩,⟨HB.out⟩⟩
     ·rw [if_neg c43] at H
      have c43b0 : (a0 == 22) = false:=beq_eq_false_iff_ne.mpr c43
      have c43b1 : (a0 != 22) = true:=bne_iff_ne.mpr c43
      (first | rw [c43b0] | (simp only [i64_w,i32_w];rw [c43b0]) | skip)
      have H':=Aside0.mk H
      clear H
      go_wp2
      go_meet
      case rel=>exact ⟨_,((a0 == 23)),(by first | rfl | (simp;done) | (simp [*];done)),H',⟨by have:=HJ3.out;first | omega | exact Nat.le_refl _⟩,⟨BK224.out⟩,⟨BK225.out⟩,⟨BK226.out⟩,⟨HB.out⟩⟩
    case rest =>
     clear HC42
     try clear c1
     try clear c2
     try clear p2
     try clear c3
     try clear c4
     try clear c6
     try clear c9
     try clear c11
     try clear c12
     try clear c12b0
     try clear c13
     try clear c14
     try clear c17
     try clear c20
     try clear c21
     try clear c24
     try clear c27
     try clear c28
     try clear c31
     try clear c34
     try clear c35
     try clear c38
     try clear c39
     try clear c40
     try clear c42
     try clear hcz15_0
     try clear hcz15_1
     try clear hcz15_2
     try clear hcz15_3
     try clear hcz18_0
     try clear hcz18_1
     try clear hcz18_2
     try clear hcz18_3
     try clear hcz22_0
     try clear hcz22_1
     try clear hcz22_2
     try clear hcz22_3
     try clear hcz25_0
     try clear hcz25_1
     try clear hcz25_2
     try clear hcz25_3
     try clear hcz29_0
     try clear hcz29_1
     try clear hcz29_2
     try clear hcz29_3
     try clear hcz32_0
     try clear hcz32_1
     try clear hcz32_2
     try clear hcz32_3
     try clear hcz36_0
     try clear hcz36_1
     try clear hcz36_2
     try clear hcz36_3
     try clear hcz41_0
     try clear hcz41_1
     try clear hcz41_2
     try clear hcz41_3
     try clear hfz15_0
     try clear hfz15_1
     try clear hfz15_2
     try clear hfz15_3
     try clear hfz18_0
     try clear hfz18_1
     try clear hfz18_2
     try clear hfz18_3
     try clear hfz22_0
     try clear hfz22_1
     try clear hfz22_2
     try clear hfz22_3
     try clear hfz25_0
     try clear hfz25_1
     try clear hfz25_2
     try clear hfz25_3
     try clear hfz29_0
     try clear hfz29_1
     try clear hfz29_2
     try clear hfz29_3
     try clear hfz32_0
     try clear hfz32_1
     try clear hfz32_2
     try clear hfz32_3
     try clear hfz36_0
     try clear hfz36_1
     try clear hfz36_2
     try clear hfz36_3
     try clear hfz41_0
     try clear hfz41_1
     try clear hfz41_2
     try clear hfz41_3
     try clear p2
     obtain ⟨kq,x31_41,rfl,HA,HJ41,BK224,BK225,BK226,HB⟩:=hcut
     cases kq with
     | zero=>exact absurd HA.out (by simp [freshetref01_Two.j1])
     | succ kj41 =>
      have H:=HA.out
      clear HA
      simp only [freshetref01_Two.j1] at H
      by_cases c44 : x31_41 = true
      ·subst c44
       have H1 : ((freshetref01_logic.f kj41 a0 a1_0 a1_1 a1_2 a1_3 a2_0 a2_1 a2_2 a2_3).bind fun bt229=>(some (bt229.1,bt229.2.1,bt229.2.2.1,bt229.2.2.2.1,bt229.2.2.2.2))) = some (r1,r2,r3,r4,r5):=by rw [if_pos rfl] at H;exact H
       clear H
       have H:=H1
       clear H1
       replace H:=Option.bind_eq_some_iff.mp H
       obtain ⟨⟨t229,t230,t231,t232,t233⟩,A450,H⟩:=H
       replace H : (some (t229,t230,t231,t232,t233)) = some (r1,r2,r3,r4,r5):=H
       have A45:=Aside0.mk A450
       clear A450
       simp only [Option.some.injEq,Prod.mk.injEq] at H
       obtain ⟨rfl,rfl,rfl,rfl,rfl⟩:=H
       have hnb46:=NB224_225.out
       have hnc46:=NB225_224.out
       have hnb47:=NB224_226.out
       have hnc47:=NB226_224.out
       obtain ⟨hcz48_0,hcz48_1,hcz48_2,hcz48_3,hfz48_0,hfz48_1,hfz48_2,hfz48_3⟩:=blk_all4 BK224.out
       have hnb49:=NB225_226.out
       have hnc49:=NB226_225.out
       obtain ⟨hcz50_0,hcz50_1,hcz50_2,hcz50_3,hfz50_0,hfz50_1,hfz50_2,hfz50_3⟩:=blk_all4 BK225.out
       go_wp2_with (first | (go_at_call 70;(with_reducible refine (freshetref01_logic.calls kj41 a0 a1_0 a1_1 a1_2 a1_3 a2_0 a2_1 a2_2 a2_3 t229 t230 t231 t232 t233 _ A45.out).mono ?_);rintro e w51 ⟨rfl,hb⟩;have n0_:=Aside0.mk (blk_below BK224.out hb);have n1_:=Aside0.mk (blk_below BK225.out hb);have n2_:=Aside0.mk (blk_below BK226.out hb);have n3_:=Aside0.mk (below_step HB.out hb);clear BK224;clear BK225;clear BK226;clear HB;have BK224:=n0_;have BK225:=n1_;have BK226:=n2_;have HB:=n3_;clear n0_ n1_ n2_ n3_;(try clear hb);obtain ⟨hcz52_0,hcz52_1,hcz52_2,hcz52_3,hfz52_0,hfz52_1,hfz52_2,hfz52_3⟩:=blk_all4 BK226.out))
       refine bodyPost_ret (results_ct rfl _ _ gb226 29 #[.int .i64 t229,.int .i64 t230,.int .u64 t231,.string t232] (0,0) _ rfl (blk_puts4 BK226.out rfl) Tryz.underlying29 rfl (by kernel_rfl)) rfl ?_
       exact ⟨by first | rfl | (simp [errW_none,errW_some] <;> rfl) | (simp [*,errW_none,errW_some] <;> rfl),by repeat (first | (with_reducible first | exact HB.out | apply below_alloc | apply pw_below_drewN | apply below_drew1 | refine below_set ?_ GE224.out | refine below_set ?_ GE225.out | refine below_set ?_ GE226.out) | exact HB.out)⟩
      ·replace c44:=Bool.eq_false_iff.mpr c44
       subst c44
       have H1 : (if a1_0 = 0 then (freshetref01_Two.j2 kj41 a0 false a1_0 a1_1 a1_2 a1_3 a2_0 a2_1 a2_2 a2_3) else (if a2_0 = 0 then (freshetref01_Two.j2 kj41 a0 false a1_0 a1_1 a1_2 a1_3 a2_0 a2_1 a2_2 a2_3) else (freshetref01_Two.j2 kj41 a0 (a1_0 != a2_0) a1_0 a1_1 a1_2 a1_3 a2_0 a2_1 a2_2 a2_3))) = some (r1,r2,r3,r4,r5):=by rw [if_neg (show ¬ (false = true) by decide)] at H;exact H
       clear H
       have H:=H1
       clear H1
       have HC53:=Aside0.mk H
       clear H
       go_upto_region 5 with (fail)
       go_cut [52] (fun v52 wc=>∃ (kq : Nat) (x52_52 : Bool),v52 = .bool x52_52 ∧ Aside0 (freshetref01_Two.j2 kq a0 x52_52 a1_0 a1_1 a1_2 a1_3 a2_0 a2_1 a2_2 a2_3 = some (r1,r2,r3,r4,r5)) ∧ Aside0 (kq ≤ kj41) ∧ Aside0 (wc.heap[gb224]? = some (.cells #[.int .i64 a1_0,.int .i64 a1_1,.int .u64 a1_2,.string a1_3] 29 (0,0))) ∧ Aside0 (wc.heap[gb225]? = some (.cells #[.int .i64 a2_0,.int .i64 a2_1,.int .u64 a2_2,.string a2_3] 29 (0,0))) ∧ Aside0 (wc.heap[gb226]? = some (.cells #[.int .i64 0,.int .i64 0,.int .u64 0,.string (⟨#[]⟩ : ByteArray)] 29 (0,0))) ∧ Aside0 (Below w.heap.size w wc))
       case first =>
        have H:=HC53.out
        clear HC53
        by_cases c54 : a1_0 = 0
        ·rw [if_pos c54] at H
         have c54b0 : (a1_0 == 0) = true:=beq_iff_eq.mpr c54
         have c54b1 : (a1_0 != 0) = false:=bne_eq_false_iff_eq.mpr c54
         clear c54
         (first | rw [c54b0] | (simp only [i64_w,i32_w];rw [c54b0]) | skip)
         have H':=Aside0.mk H
         clear H
         have hnb55:=NB224_225.out
         have hnc55:=NB225_224.out
         have hnb56:=NB224_226.out
         have hnc56:=NB226_224.out
         obtain ⟨hcz57_0,hcz57_1,hcz57_2,hcz57_3,hfz57_0,hfz57_1,hfz57_2,hfz57_3⟩:=blk_all4 BK224.out
         go_wp2
         go_meet
         case rel=>exact ⟨_,(false),(by first | rfl | (simp;done) | (simp [*];done)),H',⟨by have:=HJ3.out;have:=HJ41.out;first | omega | exact Nat.le_refl _⟩,⟨BK224.out⟩,⟨BK225.out⟩,⟨BK226.out⟩,⟨HB.out⟩⟩
        ·rw [if_neg c54] at H
         have c54b0 : (a1_0 == 0) = false:=beq_eq_false_iff_ne.mpr c54
         have c54b1 : (a1_0 != 0) = true:=bne_iff_ne.mpr c54
         (first | rw [c54b0] | (simp only [i64_w,i32_w];rw [c54b0]) | skip)
         by_cases c58 : a2_0 = 0
         ·rw [if_pos c58] at H
          have c58b0 : (a2_0 == 0) = true:=beq_iff_eq.mpr c58
          have c58b1 : (a2_0 != 0) = false:=bne_eq_false_iff_eq.mpr c58
          clear c58
          have H':=Aside0.mk H
          clear H
          have hnb59:=NB224_225.out
          have hnc59:=NB225_224.out
          have hnb60:=NB224_226.out
          have hnc60:=NB226_224.out
          obtain ⟨hcz61_0,hcz61_1,hcz61_2,hcz61_3,hfz61_0,hfz61_1,hfz61_2,hfz61_3⟩:=blk_all4 BK224.out
          have hnb62:=NB225_226.out
          have hnc62:=NB226_225.out
          obtain ⟨hcz63_0,hcz63_1,hcz63_2,hcz63_3,hfz63_0,hfz63_1,hfz63_2,hfz63_3⟩:=blk_all4 BK225.out
          go_wp2
          go_meet
          case rel=>exact ⟨_,(false),(by first | rfl | (simp;done) | (simp [*];done)),H',⟨by have:=HJ3.out;have:=HJ41.out;first | omega | exact Nat.le_refl _⟩,⟨BK224.out⟩,⟨BK225.out⟩,⟨BK226.out⟩,⟨HB.out⟩⟩
         ·rw [if_neg c58] at H
          have c58b0 : (a2_0 == 0) = false:=beq_eq_false_iff_ne.mpr c58
          have c58b1 : (a2_0 != 0) = true:=bne_iff_ne.mpr c58
          have H':=Aside0.mk H
          clear H
          have hnb64:=NB224_225.out
          have hnc64:=NB225_224.out
          have hnb65:=NB224_226.out
          have hnc65:=NB226_224.out
          obtain ⟨hcz66_0,hcz66_1,hcz66_2,hcz66_3,hfz66_0,hfz66_1,hfz66_2,hfz66_3⟩:=blk_all4 BK224.out
          have hnb67:=NB225_226.out
          have hnc67:=NB226_225.out
          obtain ⟨hcz68_0,hcz68_1,hcz68_2,hcz68_3,hfz68_0,hfz68_1,hfz68_2,hfz68_3⟩:=blk_all4 BK225.out
          go_wp2
          go_meet
          case rel=>exact ⟨_,((a1_0 != a2_0)),(by first | rfl | (simp;done) | (simp [*];done)),H',⟨by have:=HJ3.out;have:=HJ41.out;first | omega | exact Nat.le_refl _⟩,⟨BK224.out⟩,⟨BK225.out⟩,⟨BK226.out⟩,⟨HB.out⟩⟩
       case rest =>
        clear HC53
        try clear c1
        try clear c2
        try clear p2
        try clear c3
        try clear c4
        try clear c5
        try clear c6
        try clear c7
        try clear c9
        try clear c11
        try clear c12
        try clear c12b0
        try clear c13
        try clear c14
        try clear c17
        try clear c20
        try clear c21
        try clear c24
        try clear c27
        try clear c28
        try clear c31
        try clear c34
        try clear c35
        try clear c38
        try clear c39
        try clear c40
        try clear c42
        try clear c43
        try clear c43b0
        try clear c43b1
        try clear c44
        try clear c46
        try clear c47
        try clear c49
        try clear c55
        try clear c56
        try clear c59
        try clear c60
        try clear c62
        try clear c64
        try clear c65
        try clear c67
        try clear hcz15_0
        try clear hcz15_1
        try clear hcz15_2
        try clear hcz15_3
        try clear hcz18_0
        try clear hcz18_1
        try clear hcz18_2
        try clear hcz18_3
        try clear hcz22_0
        try clear hcz22_1
        try clear hcz22_2
        try clear hcz22_3
        try clear hcz25_0
        try clear hcz25_1
        try clear hcz25_2
        try clear hcz25_3
        try clear hcz29_0
        try clear hcz29_1
        try clear hcz29_2
        try clear hcz29_3
        try clear hcz32_0
        try clear hcz32_1
        try clear hcz32_2
        try clear hcz32_3
        try clear hcz36_0
        try clear hcz36_1
        try clear hcz36_2
        try clear hcz36_3
        try clear hcz41_0
        try clear hcz41_1
        try clear hcz41_2
        try clear hcz41_3
        try clear hcz48_0
        try clear hcz48_1
        try clear hcz48_2
        try clear hcz48_3
        try clear hcz50_0
        try clear hcz50_1
        try clear hcz50_2
        try clear hcz50_3
        try clear hcz52_0
        try clear hcz52_1
        try clear hcz52_2
        try clear hcz52_3
        try clear hfz15_0
        try clear hfz15_1
        try clear hfz15_2
        try clear hfz15_3
        try clear hfz18_0
        try clear hfz18_1
        try clear hfz18_2
        try clear hfz18_3
        try clear hfz22_0
        try clear hfz22_1
        try clear hfz22_2
        try clear hfz22_3
        try clear hfz25_0
        try clear hfz25_1
        try clear hfz25_2
        try clear hfz25_3
        try clear hfz29_0
        try clear hfz29_1
        try clear hfz29_2
        try clear hfz29_3
        try clear hfz32_0
        try clear hfz32_1
        try clear hfz32_2
        try clear hfz32_3
        try clear hfz36_0
        try clear hfz36_1
        try clear hfz36_2
        try clear hfz36_3
        try clear hfz41_0
        try clear hfz41_1
        try clear hfz41_2
        try clear hfz41_3
        try clear hfz48_0
        try clear hfz48_1
        try clear hfz48_2
        try clear hfz48_3
        try clear hfz50_0
        try clear hfz50_1
        try clear hfz50_2
        try clear hfz50_3
        try clear hfz52_0
        try clear hfz52_1
        try clear hfz52_2
        try clear hfz52_3
        try clear p2
        obtain ⟨kq,x52_52,rfl,HA,HJ52,BK224,BK225,BK226,HB⟩:=hcut
        cases kq with
        | zero=>exact absurd HA.out (by simp [freshetref01_Two.j2])
        | succ kj52 =>
         have H:=HA.out
         clear HA
         simp only [freshetref01_Two.j2] at H
         by_cases c69 : x52_52 = true
         ·subst c69
          have H1 : (some (0,0,0,(⟨#[]⟩ : ByteArray),1)) = some (r1,r2,r3,r4,r5):=by rw [if_pos rfl] at H;exact H
          clear H
          have H:=H1
          clear H1
          simp only [Option.some.injEq,Prod.mk.injEq] at H
          obtain ⟨rfl,rfl,rfl,rfl,rfl⟩:=H
          have hnb70:=NB226_224.out
          have hnc70:=NB224_226.out
          have hnb71:=NB226_225.out
          have hnc71:=NB225_226.out
          obtain ⟨hcz72_0,hcz72_1,hcz72_2,hcz72_3,hfz72_0,hfz72_1,hfz72_2,hfz72_3⟩:=blk_all4 BK226.out
          go_wp2
          refine bodyPost_ret (results_ct rfl _ _ gb226 29 #[.int .i64 0,.int .i64 0,.int .u64 0,.string (⟨#[]⟩ : ByteArray)] (0,0) _ rfl (blk_puts4 BK226.out rfl) Tryz.underlying29 rfl (by kernel_rfl)) rfl ?_
          exact ⟨by first | rfl | (simp [errW_none,errW_some] <;> rfl) | (simp [*,errW_none,errW_some] <;> rfl),by repeat (first | (with_reducible first | exact HB.out | apply below_alloc | apply pw_below_drewN | apply below_drew1 | refine below_set ?_ GE224.out | refine below_set ?_ GE225.out | refine below_set ?_ GE226.out) | exact HB.out)⟩
         ·replace c69:=Bool.eq_false_iff.mpr c69
          subst c69
          have H1 : (if a0 = 24 then (if a1_0 = 0 then (some (a2_0,a2_1,a2_2,a2_3,0)) else (some (a1_0,a1_1,a1_2,a1_3,0))) else (if a1_0 = 0 then (if a2_0 = 0 then (freshetref01_Two.j3 kj52 a0 false a1_0 a1_1 a1_2 a1_3 a2_0 a2_1 a2_2 a2_3) else ((freshetref01_has.f kj52 a0 a2_0).bind fun t234=>(freshetref01_Two.j3 kj52 a0 (!t234) a1_0 a1_1 a1_2 a1_3 a2_0 a2_1 a2_2 a2_3))) else ((freshetref01_has.f kj52 a0 a1_0).bind fun t235=>(if t235 = true then (if a2_0 = 0 then (freshetref01_Two.j3 kj52 a0 false a1_0 a1_1 a1_2 a1_3 a2_0 a2_1 a2_2 a2_3) else ((freshetref01_has.f kj52 a0 a2_0).bind fun t236=>(freshetref01_Two.j3 kj52 a0 (!t236) a1_0 a1_1 a1_2 a1_3 a2_0 a2_1 a2_2 a2_3))) else (freshetref01_Two.j3 kj52 a0 true a1_0 a1_1 a1_2 a1_3 a2_0 a2_1 a2_2 a2_3))))) = some (r1,r2,r3,r4,r5):=by rw [if_neg (show ¬ (false = true) by decide)] at H;exact H
          clear H
          have H:=H1
          clear H1
          by_cases c73 : a0 = 24
          ·rw [if_pos c73] at H
           have c73b0 : (a0 == 24) = true:=beq_iff_eq.mpr c73
           have c73b1 : (a0 != 24) = false:=bne_eq_false_iff_eq.mpr c73
           clear c73
           by_cases c74 : a1_0 = 0
           ·rw [if_pos c74] at H
            have c74b0 : (a1_0 == 0) = true:=beq_iff_eq.mpr c74
            have c74b1 : (a1_0 != 0) = false:=bne_eq_false_iff_eq.mpr c74
            clear c74
            simp only [Option.some.injEq,Prod.mk.injEq] at H
            obtain ⟨rfl,rfl,rfl,rfl,rfl⟩:=H
            have hnb75:=NB224_225.out
            have hnc75:=NB225_224.out
            have hnb76:=NB224_226.out
            have hnc76:=NB226_224.out
            obtain ⟨hcz77_0,hcz77_1,hcz77_2,hcz77_3,hfz77_0,hfz77_1,hfz77_2,hfz77_3⟩:=blk_all4 BK224.out
            have hnb78:=NB225_226.out
            have hnc78:=NB226_225.out
            obtain ⟨hcz79_0,hcz79_1,hcz79_2,hcz79_3,hfz79_0,hfz79_1,hfz79_2,hfz79_3⟩:=blk_all4 BK225.out
            obtain ⟨hcz80_0,hcz80_1,hcz80_2,hcz80_3,hfz80_0,hfz80_1,hfz80_2,hfz80_3⟩:=blk_all4 BK226.out
            go_wp2
            refine bodyPost_ret (results_ct rfl _ _ gb226 29 #[.int .i64 a2_0,.int .i64 a2_1,.int .u64 a2_2,.string a2_3] (0,0) _ rfl (blk_puts4 BK226.out rfl) Tryz.underlying29 rfl (by kernel_rfl)) rfl ?_
            exact ⟨by first | rfl | (simp [errW_none,errW_some] <;> rfl) | (simp [*,errW_none,errW_some] <;> rfl),by repeat (first | (with_reducible first | exact HB.out | apply below_alloc | apply pw_below_drewN | apply below_drew1 | refine below_set ?_ GE224.out | refine below_set ?_ GE225.out | refine below_set ?_ GE226.out) | exact HB.out)⟩
           ·rw [if_neg c74] at H
            have c74b0 : (a1_0 == 0) = false:=beq_eq_false_iff_ne.mpr c74
            have c74b1 : (a1_0 != 0) = true:=bne_iff_ne.mpr c74
            simp only [Option.some.injEq,Prod.mk.injEq] at H
            obtain ⟨rfl,rfl,rfl,rfl,rfl⟩:=H
            have hnb81:=NB224_225.out
            have hnc81:=NB225_224.out
            have hnb82:=NB224_226.out
            have hnc82:=NB226_224.out
            obtain ⟨hcz83_0,hcz83_1,hcz83_2,hcz83_3,hfz83_0,hfz83_1,hfz83_2,hfz83_3⟩:=blk_all4 BK224.out
            have hnb84:=NB226_225.out
            have hnc84:=NB225_226.out
            obtain ⟨hcz85_0,hcz85_1,hcz85_2,hcz85_3,hfz85_0,hfz85_1,hfz85_2,hfz85_3⟩:=blk_all4 BK226.out
            go_wp2
            refine bodyPost_ret (results_ct rfl _ _ gb226 29 #[.int .i64 a1_0,.int .i64 a1_1,.int .u64 a1_2,.string a1_3] (0,0) _ rfl (blk_puts4 BK226.out rfl) Tryz.underlying29 rfl (by kernel_rfl)) rfl ?_
            exact ⟨by first | rfl | (simp [errW_none,errW_some] <;> rfl) | (simp [*,errW_none,errW_some] <;> rfl),by repeat (first | (with_reducible first | exact HB.out | apply below_alloc | apply pw_below_drewN | apply below_drew1 | refine below_set ?_ GE224.out | refine below_set ?_ GE225.out | refine below_set ?_ GE226.out) | exact HB.out)⟩
          ·rw [if_neg c73] at H
           have c73b0 : (a0 == 24) = false:=beq_eq_false_iff_ne.mpr c73
           have c73b1 : (a0 != 24) = true:=bne_iff_ne.mpr c73
           have HC86:=Aside0.mk H
           clear H
           go_upto_region 11 with (fail)
           go_cut [82] (fun v82 wc=>∃ (kq : Nat) (x82_85 : Bool),v82 = .bool x82_85 ∧ Aside0 (freshetref01_Two.j3 kq a0 x82_85 a1_0 a1_1 a1_2 a1_3 a2_0 a2_1 a2_2 a2_3 = some (r1,r2,r3,r4,r5)) ∧ Aside0 (kq ≤ kj52) ∧ Aside0 (wc.heap[gb224]? = some (.cells #[.int .i64 a1_0,.int .i64 a1_1,.int .u64 a1_2,.string a1_3] 29 (0,0))) ∧ Aside0 (wc.heap[gb225]? = some (.cells #[.int .i64 a2_0,.int .i64 a2_1,.int .u64 a2_2,.string a2_3] 29 (0,0))) ∧ Aside0 (wc.heap[gb226]? = some (.cells #[.int .i64 0,.int .i64 0,.int .u64 0,.string (⟨#[]⟩ : ByteArray)] 29 (0,0))) ∧ Aside0 (Below w.heap.size w wc))
           case first =>
            have H:=HC86.out
            clear HC86
            by_cases c87 : a1_0 = 0
            ·rw [if_pos c87] at H
             have c87b0 : (a1_0 == 0) = true:=beq_iff_eq.mpr c87
             have c87b1 : (a1_0 != 0) = false:=bne_eq_false_iff_eq.mpr c87
             clear c87
             (first | rw [c87b0] | (simp only [i64_w,i32_w];rw [c87b0]) | skip)
             by_cases c88 : a2_0 = 0
             ·rw [if_pos c88] at H
              have c88b0 : (a2_0 == 0) = true:=beq_iff_eq.mpr c88
              have c88b1 : (a2_0 != 0) = false:=bne_eq_false_iff_eq.mpr c88
              clear c88
              have H':=Aside0.mk H
              clear H
              have hnb89:=NB224_225.out
              have hnc89:=NB225_224.out
              have hnb90:=NB224_226.out
              have hnc90:=NB226_224.out
              obtain ⟨hcz91_0,hcz91_1,hcz91_2,hcz91_3,hfz91_0,hfz91_1,hfz91_2,hfz91_3⟩:=blk_all4 BK224.out
              have hnb92:=NB225_226.out
              have hnc92:=NB226_225.out
              obtain ⟨hcz93_0,hcz93_1,hcz93_2,hcz93_3,hfz93_0,hfz93_1,hfz93_2,hfz93_3⟩:=blk_all4 BK225.out
              go_wp2
              go_meet
              case rel=>exact ⟨_,(false),(by first | rfl | (simp;done) | (simp [*];done)),H',⟨by have:=HJ3.out;have:=HJ41.out;have:=HJ52.out;first | omega | exact Nat.le_refl _⟩,⟨BK224.out⟩,⟨BK225.out⟩,⟨BK226.out⟩,⟨HB.out⟩⟩
             ·rw [if_neg c88] at H
              have c88b0 : (a2_0 == 0) = false:=beq_eq_false_iff_ne.mpr c88
              have c88b1 : (a2_0 != 0) = true:=bne_iff_ne.mpr c88
              replace H:=Option.bind_eq_some_iff.mp H
              obtain ⟨t234,A940,H⟩:=H
              replace H : (freshetref01_Two.j3 kj52 a0 (!t234) a1_0 a1_1 a1_2 a1_3 a2_0 a2_1 a2_2 a2_3) = some (r1,r2,r3,r4,r5):=H
              have A94:=Aside0.mk A940
              clear A940
              have H':=Aside0.mk H
              clear H
              have hnb95:=NB224_225.out
              have hnc95:=NB225_224.out
              have hnb96:=NB224_226.out
              have hnc96:=NB226_224.out
              obtain ⟨hcz97_0,hcz97_1,hcz97_2,hcz97_3,hfz97_0,hfz97_1,hfz97_2,hfz97_3⟩:=blk_all4 BK224.out
              have hnb98:=NB225_226.out
              have hnc98:=NB226_225.out
              obtain ⟨hcz99_0,hcz99_1,hcz99_2,hcz99_3,hfz99_0,hfz99_1,hfz99_2,hfz99_3⟩:=blk_all4 BK225.out
              go_wp2_with (first | (go_at_call 71;(with_reducible refine (freshetref01_has.calls kj52 a0 a2_0 t234 _ A94.out).mono ?_);rintro e w' ⟨rfl,⟨nd,rfl⟩⟩))
              go_meet
              case rel=>exact ⟨_,(!t234),(by first | rfl | (simp;done) | (simp [*];done)),H',⟨by have:=HJ3.out;have:=HJ41.out;have:=HJ52.out;first | omega | exact Nat.le_refl _⟩,⟨by (with_reducible repeat (first | refine blk_drewN ?_ _ | refine blk_drew ?_ | refine blk_alloc ?_ _));exact BK224.out⟩,⟨by (with_reducible repeat (first | refine blk_drewN ?_ _ | refine blk_drew ?_ | refine blk_alloc ?_ _));exact BK225.out⟩,⟨by (with_reducible repeat (first | refine blk_drewN ?_ _ | refine blk_drew ?_ | refine blk_alloc ?_ _));exact BK226.out⟩,⟨by repeat (first | (with_reducible first | exact HB.out | apply below_alloc | apply pw_below_drewN | apply below_drew1 | refine below_set ?_ GE224.out | refine below_set ?_ GE225.out | refine below_set ?_ GE226.out) | exact HB.out)⟩⟩
            ·rw [if_neg c87] at H
             have c87b0 : (a1_0 == 0) = false:=beq_eq_false_iff_ne.mpr c87
             have c87b1 : (a1_0 != 0) = true:=bne_iff_ne.mpr c87
             (first | rw [c87b0] | (simp only [i64_w,i32_w];rw [c87b0]) | skip)
             replace H:=Option.bind_eq_some_iff.mp H
             obtain ⟨t235,A1000,H⟩:=H
             replace H : (if t235 = true then (if a2_0 = 0 then (freshetref01_Two.j3 kj52 a0 false a1_0 a1_1 a1_2 a1_3 a2_0 a2_1 a2_2 a2_3) else ((freshetref01_has.f kj52 a0 a2_0).bind fun t236=>(freshetref01_Two.j3 kj52 a0 (!t236) a1_0 a1_1 a1_2 a1_3 a2_0 a2_1 a2_2 a2_3))) else (freshetref01_Two.j3 kj52 a0 true a1_0 a1_1 a1_2 a1_3 a2_0 a2_1 a2_2 a2_3)) = some (r1,r2,r3,r4,r5):=H
             have A100:=Aside0.mk A1000
             clear A1000
             by_cases c101 : t235 = true
             ·subst c101
              have H1 : (if a2_0 = 0 then (freshetref01_Two.j3 kj52 a0 false a1_0 a1_1 a1_2 a1_3 a2_0 a2_1 a2_2 a2_3) else ((freshetref01_has.f kj52 a0 a2_0).bind fun t236=>(freshetref01_Two.j3 kj52 a0 (!t236) a1_0 a1_1 a1_2 a1_3 a2_0 a2_1 a2_2 a2_3))) = some (r1,r2,r3,r4,r5):=by rw [if_pos rfl] at H;exact H
              clear H
              have H:=H1
              clear H1
              by_cases c102 : a2_0 = 0
              ·rw [if_pos c102] at H
               have c102b0 : (a2_0 == 0) = true:=beq_iff_eq.mpr c102
               have c102b1 : (a2_0 != 0) = false:=bne_eq_false_iff_eq.mpr c102
               clear c102
               have H':=Aside0.mk H
               clear H
               have hnb103:=NB224_225.out
               have hnc103:=NB225_224.out
               have hnb104:=NB224_226.out
               have hnc104:=NB226_224.out
               obtain ⟨hcz105_0,hcz105_1,hcz105_2,hcz105_3,hfz105_0,hfz105_1,hfz105_2,hfz105_3⟩:=blk_all4 BK224.out
               go_wp2_with (first | (go_at_call 71;(with_reducible refine (freshetref01_has.calls kj52 a0 a1_0 true _ A100.out).mono ?_);rintro e w' ⟨rfl,⟨nd,rfl⟩⟩;have hnb106:=NB225_226.out;have hnc106:=NB226_225.out;obtain ⟨hcz107_0,hcz107_1,hcz107_2,hcz107_3,hfz107_0,hfz107_1,hfz107_2,hfz107_3⟩:=blk_all4 BK225.out))
               go_meet
               case rel=>exact ⟨_,(false),(by first | rfl | (simp;done) | (simp [*];done)),H',⟨by have:=HJ3.out;have:=HJ41.out;have:=HJ52.out;first | omega | exact Nat.le_refl _⟩,⟨by (with_reducible repeat (first | refine blk_drewN ?_ _ | refine blk_drew ?_ | refine blk_alloc ?_ _));exact BK224.out⟩,⟨by (with_reducible repeat (first | refine blk_drewN ?_ _ | refine blk_drew ?_ | refine blk_alloc ?_ _));exact BK225.out⟩,⟨by (with_reducible repeat (first | refine blk_drewN ?_ _ | refine blk_drew ?_ | refine blk_alloc ?_ _));exact BK226.out⟩,⟨by repeat (first | (with_reducible first | exact HB.out | apply below_alloc | apply pw_below_drewN | apply below_drew1 | refine below_set ?_ GE224.out | refine below_set ?_ GE225.out | refine below_set ?_ GE226.out) | exact HB.out)⟩⟩
              ·rw [if_neg c102] at H
               have c102b0 : (a2_0 == 0) = false:=beq_eq_false_iff_ne.mpr c102
               have c102b1 : (a2_0 != 0) = true:=bne_iff_ne.mpr c102
               replace H:=Option.bind_eq_some_iff.mp H
               obtain ⟨t236,A1080,H⟩:=H
               replace H : (freshetref01_Two.j3 kj52 a0 (!t236) a1_0 a1_1 a1_2 a1_3 a2_0 a2_1 a2_2 a2_3) = some (r1,r2,r3,r4,r5):=H
               have A108:=Aside0.mk A1080
               clear A1080
               have H':=Aside0.mk H
               clear H
               have hnb109:=NB224_225.out
               have hnc109:=NB225_224.out
               have hnb110:=NB224_226.out
               have hnc110:=NB226_224.out
               obtain ⟨hcz111_0,hcz111_1,hcz111_2,hcz111_3,hfz111_0,hfz111_1,hfz111_2,hfz111_3⟩:=blk_all4 BK224.out
               go_wp2_with (first | (go_at_call 71;(with_reducible refine (freshetref01_has.calls kj52 a0 a1_0 true _ A100.out).mono ?_);rintro e w' ⟨rfl,⟨nd,rfl⟩⟩;have hnb112:=NB225_226.out;have hnc112:=NB226_225.out;obtain ⟨hcz113_0,hcz113_1,hcz113_2,hcz113_3,hfz113_0,hfz113_1,hfz113_2,hfz113_3⟩:=blk_all4 BK225.out) | (go_at_call 71;(with_reducible refine (freshetref01_has.calls kj52 a0 a2_0 t236 _ A108.out).mono ?_);rintro e w' ⟨rfl,⟨nd,rfl⟩⟩))
               go_meet
               case rel=>exact ⟨_,(!t236),(by first | rfl | (simp;done) | (simp [*];done)),H',⟨by have:=HJ3.out;have:=HJ41.out;have:=HJ52.out;first | omega | exact Nat.le_refl _⟩,⟨by (with_reducible repeat (first | refine blk_drewN ?_ _ | refine blk_drew ?_ | refine blk_alloc ?_ _));exact BK224.out⟩,⟨by (with_reducible repeat (first | refine blk_drewN ?_ _ | refine blk_drew ?_ | refine blk_alloc ?_ _));exact BK225.out⟩,⟨by (with_reducible repeat (first | refine blk_drewN ?_ _ | refine blk_drew ?_ | refine blk_alloc ?_ _));exact BK226.out⟩,⟨by repeat (first | (with_reducible first | exact HB.out | apply below_alloc | apply pw_below_drewN | apply below_drew1 | refine below_set ?_ GE224.out | refine below_set ?_ GE225.out | refine below_set ?_ GE226.out) | exact HB.out)⟩⟩
             ·replace c101:=Bool.eq_false_iff.mpr c101
              subst c101
              have H1 : (freshetref01_Two.j3 kj52 a0 true a1_0 a1_1 a1_2 a1_3 a2_0 a2_1 a2_2 a2_3) = some (r1,r2,r3,r4,r5):=by rw [if_neg (show ¬ (false = true) by decide)] at H;exact H
              clear H
              have H:=H1
              clear H1
              have H':=Aside0.mk H
              clear H
              have hnb114:=NB224_225.out
              have hnc114:=NB225_224.out
              have hnb115:=NB224_226.out
              have hnc115:=NB226_224.out
              obtain ⟨hcz116_0,hcz116_1,hcz116_2,hcz116_3,hfz116_0,hfz116_1,hfz116_2,hfz116_3⟩:=blk_all4 BK224.out
              go_wp2_with (first | (go_at_call 71;(with_reducible refine (freshetref01_has.calls kj52 a0 a1_0 false _ A100.out).mono ?_);rintro e w' ⟨rfl,⟨nd,rfl⟩⟩))
              go_meet
              case rel=>exact ⟨_,(true),(by first | rfl | (simp;done) | (simp [*];done)),H',⟨by have:=HJ3.out;have:=HJ41.out;have:=HJ52.out;first | omega | exact Nat.le_refl _⟩,⟨by (with_reducible repeat (first | refine blk_drewN ?_ _ | refine blk_drew ?_ | refine blk_alloc ?_ _));exact BK224.out⟩,⟨by (with_reducible repeat (first | refine blk_drewN ?_ _ | refine blk_drew ?_ | refine blk_alloc ?_ _));exact BK225.out⟩,⟨by (with_reducible repeat (first | refine blk_drewN ?_ _ | refine blk_drew ?_ | refine blk_alloc ?_ _));exact BK226.out⟩,⟨by repeat (first | (with_reducible first | exact HB.out | apply below_alloc | apply pw_below_drewN | apply below_drew1 | refine below_set ?_ GE224.out | refine below_set ?_ GE225.out | refine below_set ?_ GE226.out) | exact HB.out)⟩⟩
           case rest =>
            clear HC86
            try clear c1
            try clear c2
            try clear p2
            try clear c3
            try clear c4
            try clear c5
            try clear c6
            try clear c7
            try clear c8
            try clear c9
            try clear c10
            try clear c11
            try clear c12
            try clear c12b0
            try clear c13
            try clear c14
            try clear c17
            try clear c20
            try clear c21
            try clear c24
            try clear c27
            try clear c28
            try clear c31
            try clear c34
            try clear c35
            try clear c38
            try clear c39
            try clear c40
            try clear c42
            try clear c43
            try clear c43b0
            try clear c43b1
            try clear c44
            try clear c46
            try clear c47
            try clear c49
            try clear c54
            try clear c54b0
            try clear c54b1
            try clear c55
            try clear c56
            try clear c58
            try clear c58b0
            try clear c58b1
            try clear c59
            try clear c60
            try clear c62
            try clear c64
            try clear c65
            try clear c67
            try clear c69
            try clear c70
            try clear c71
            try clear c73
            try clear c73b0
            try clear c73b1
            try clear c74
            try clear c74b0
            try clear c74b1
            try clear c75
            try clear c76
            try clear c78
            try clear c81
            try clear c82
            try clear c84
            try clear c89
            try clear c90
            try clear c92
            try clear c95
            try clear c96
            try clear c98
            try clear c103
            try clear c104
            try clear c106
            try clear c109
            try clear c110
            try clear c112
            try clear c114
            try clear c115
            try clear hcz15_0
            try clear hcz15_1
            try clear hcz15_2
            try clear hcz15_3
            try clear hcz18_0
            try clear hcz18_1
            try clear hcz18_2
            try clear hcz18_3
            try clear hcz22_0
            try clear hcz22_1
            try clear hcz22_2
            try clear hcz22_3
            try clear hcz25_0
            try clear hcz25_1
            try clear hcz25_2
            try clear hcz25_3
            try clear hcz29_0
            try clear hcz29_1
            try clear hcz29_2
            try clear hcz29_3
            try clear hcz32_0
            try clear hcz32_1
            try clear hcz32_2
            try clear hcz32_3
            try clear hcz36_0
            try clear hcz36_1
            try clear hcz36_2
            try clear hcz36_3
            try clear hcz41_0
            try clear hcz41_1
            try clear hcz41_2
            try clear hcz41_3
            try clear hcz48_0
            try clear hcz48_1
            try clear hcz48_2
            try clear hcz48_3
            try clear hcz50_0
            try clear hcz50_1
            try clear hcz50_2
            try clear hcz50_3
            try clear hcz52_0
            try clear hcz52_1
            try clear hcz52_2
            try clear hcz52_3
            try clear hcz57_0
            try clear hcz57_1
            try clear hcz57_2
            try clear hcz57_3
            try clear hcz61_0
            try clear hcz61_1
            try clear hcz61_2
            try clear hcz61_3
            try clear hcz63_0
            try clear hcz63_1
            try clear hcz63_2
            try clear hcz63_3
            try clear hcz66_0
            try clear hcz66_1
            try clear hcz66_2
            try clear hcz66_3
            try clear hcz68_0
            try clear hcz68_1
            try clear hcz68_2
            try clear hcz68_3
            try clear hcz72_0
            try clear hcz72_1
            try clear hcz72_2
            try clear hcz72_3
            try clear hcz77_0
            try clear hcz77_1
            try clear hcz77_2
            try clear hcz77_3
            try clear hcz79_0
            try clear hcz79_1
            try clear hcz79_2
            try clear hcz79_3
            try clear hcz80_0
            try clear hcz80_1
            try clear hcz80_2
            try clear hcz80_3
            try clear hcz83_0
            try clear hcz83_1
            try clear hcz83_2
            try clear hcz83_3
            try clear hcz85_0
            try clear hcz85_1
            try clear hcz85_2
            try clear hcz85_3
            try clear hfz15_0
            try clear hfz15_1
            try clear hfz15_2
            try clear hfz15_3
            try clear hfz18_0
            try clear hfz18_1
            try clear hfz18_2
            try clear hfz18_3
            try clear hfz22_0
            try clear hfz22_1
            try clear hfz22_2
            try clear hfz22_3
            try clear hfz25_0
            try clear hfz25_1
            try clear hfz25_2
            try clear hfz25_3
            try clear hfz29_0
            try clear hfz29_1
            try clear hfz29_2
            try clear hfz29_3
            try clear hfz32_0
            try clear hfz32_1
            try clear hfz32_2
            try clear hfz32_3
            try clear hfz36_0
            try clear hfz36_1
            try clear hfz36_2
            try clear hfz36_3
            try clear hfz41_0
            try clear hfz41_1
            try clear hfz41_2
            try clear hfz41_3
            try clear hfz48_0
            try clear hfz48_1
            try clear hfz48_2
            try clear hfz48_3
            try clear hfz50_0
            try clear hfz50_1
            try clear hfz50_2
            try clear hfz50_3
            try clear hfz52_0
            try clear hfz52_1
            try clear hfz52_2
            try clear hfz52_3
            try clear hfz57_0
            try clear hfz57_1
            try clear hfz57_2
            try clear hfz57_3
            try clear hfz61_0
            try clear hfz61_1
            try clear hfz61_2
            try clear hfz61_3
            try clear hfz63_0
            try clear hfz63_1
            try clear hfz63_2
            try clear hfz63_3
            try clear hfz66_0
            try clear hfz66_1
            try clear hfz66_2
            try clear hfz66_3
            try clear hfz68_0
            try clear hfz68_1
            try clear hfz68_2
            try clear hfz68_3
            try clear hfz72_0
            try clear hfz72_1
            try clear hfz72_2
            try clear hfz72_3
            try clear hfz77_0
            try clear hfz77_1
            try clear hfz77_2
            try clear hfz77_3
            try clear hfz79_0
            try clear hfz79_1
            try clear hfz79_2
            try clear hfz79_3
            try clear hfz80_0
            try clear hfz80_1
            try clear hfz80_2
            try clear hfz80_3
            try clear hfz83_0
            try clear hfz83_1
            try clear hfz83_2
            try clear hfz83_3
            try clear hfz85_0
            try clear hfz85_1
            try clear hfz85_2
            try clear hfz85_3
            try clear p2
            obtain ⟨kq,x82_85,rfl,HA,HJ85,BK224,BK225,BK226,HB⟩:=hcut
            cases kq with
            | zero=>exact absurd HA.out (by simp [freshetref01_Two.j3])
            | succ kj85 =>
             have H:=HA.out
             clear HA
             simp only [freshetref01_Two.j3] at H
             by_cases c117 : x82_85 = true
             ·subst c117
              have H1 : (some (0,0,0,(⟨#[]⟩ : ByteArray),1)) = some (r1,r2,r3,r4,r5):=by rw [if_pos rfl] at H;exact H
              clear H
              have H:=H1
              clear H1
              simp only [Option.some.injEq,Prod.mk.injEq] at H
              obtain ⟨rfl,rfl,rfl,rfl,rfl⟩:=H
              have hnb118:=NB226_224.out
              have hnc118:=NB224_226.out
              have hnb119:=NB226_225.out
              have hnc119:=NB225_226.out
              obtain ⟨hcz120_0,hcz120_1,hcz120_2,hcz120_3,hfz120_0,hfz120_1,hfz120_2,hfz120_3⟩:=blk_all4 BK226.out
              go_wp2
              refine bodyPost_ret (results_ct rfl _ _ gb226 29 #[.int .i64 0,.int .i64 0,.int .u64 0,.string (⟨#[]⟩ : ByteArray)] (0,0) _ rfl (blk_puts4 BK226.out rfl) Tryz.underlying29 rfl (by kernel_rfl)) rfl ?_
              exact ⟨by first | rfl | (simp [errW_none,errW_some] <;> rfl) | (simp [*,errW_none,errW_some] <;> rfl),by repeat (first | (with_reducible first | exact HB.out | apply below_alloc | apply pw_below_drewN | apply below_drew1 | refine below_set ?_ GE224.out | refine below_set ?_ GE225.out | refine below_set ?_ GE226.out) | exact HB.out)⟩
             ·replace c117:=Bool.eq_false_iff.mpr c117
              subst c117
              have H1 : (if a1_0 = 0 then (freshetref01_Two.j4 kj85 a0 true a1_0 a1_1 a1_2 a1_3 a2_0 a2_1 a2_2 a2_3) else (freshetref01_Two.j4 kj85 a0 (a2_0 == 0) a1_0 a1_1 a1_2 a1_3 a2_0 a2_1 a2_2 a2_3)) = some (r1,r2,r3,r4,r5):=by rw [if_neg (show ¬ (false = true) by decide)] at H;exact H
              clear H
              have H:=H1
              clear H1
              have HC121:=Aside0.mk H
              clear H
              go_upto_region 13 with (fail)
              go_cut [91] (fun v91 wc=>∃ (kq : Nat) (x91_120 : Bool),v91 = .bool x91_120 ∧ Aside0 (freshetref01_Two.j4 kq a0 x91_120 a1_0 a1_1 a1_2 a1_3 a2_0 a2_1 a2_2 a2_3 = some (r1,r2,r3,r4,r5)) ∧ Aside0 (kq ≤ kj85) ∧ Aside0 (wc.heap[gb224]? = some (.cells #[.int .i64 a1_0,.int .i64 a1_1,.int .u64 a1_2,.string a1_3] 29 (0,0))) ∧ Aside0 (wc.heap[gb225]? = some (.cells #[.int .i64 a2_0,.int .i64 a2_1,.int .u64 a2_2,.string a2_3] 29 (0,0))) ∧ Aside0 (wc.heap[gb226]? = some (.cells #[.int .i64 0,.int .i64 0,.int .u64 0,.string (⟨#[]⟩ : ByteArray)] 29 (0,0))) ∧ Aside0 (Below w.heap.size w wc))
              case first =>
               have H:=HC121.out
               clear HC121
               by_cases c122 : a1_0 = 0
               ·rw [if_pos c122] at H
                have c122b0 : (a1_0 == 0) = true:=beq_iff_eq.mpr c122
                have c122b1 : (a1_0 != 0) = false:=bne_eq_false_iff_eq.mpr c122
                clear c122
                (first | rw [c122b0] | (simp only [i64_w,i32_w];rw [c122b0]) | skip)
                have H':=Aside0.mk H
                clear H
                have hnb123:=NB224_225.out
                have hnc123:=NB225_224.out
                have hnb124:=NB224_226.out
                have hnc124:=NB226_224.out
                obtain ⟨hcz125_0,hcz125_1,hcz125_2,hcz125_3,hfz125_0,hfz125_1,hfz125_2,hfz125_3⟩:=blk_all4 BK224.out
                go_wp2
                go_meet
                case rel=>exact ⟨_,(true),(by first | rfl | (simp;done) | (simp [*];done)),H',⟨by have:=HJ3.out;have:=HJ41.out;have:=HJ52.out;have:=HJ85.out;first | omega | exact Nat.le_refl _⟩,⟨BK224.out⟩,⟨BK225.out⟩,⟨BK226.out⟩,⟨HB.out⟩⟩
               ·rw [if_neg c122] at H
                have c122b0 : (a1_0 == 0) = false:=beq_eq_false_iff_ne.mpr c122
                have c122b1 : (a1_0 != 0) = true:=bne_iff_ne.mpr c122
                (first | rw [c122b0] | (simp only [i64_w,i32_w];rw [c122b0]) | skip)
                have H':=Aside0.mk H
                clear H
                have hnb126:=NB224_225.out
                have hnc126:=NB225_224.out
                have hnb127:=NB224_226.out
                have hnc127:=NB226_224.out
                obtain ⟨hcz128_0,hcz128_1,hcz128_2,hcz128_3,hfz128_0,hfz128_1,hfz128_2,hfz128_3⟩:=blk_all4 BK224.out
                have hnb129:=NB225_226.out
                have hnc129:=NB226_225.out
                obtain ⟨hcz130_0,hcz130_1,hcz130_2,hcz130_3,hfz130_0,hfz130_1,hfz130_2,hfz130_3⟩:=blk_all4 BK225.out
                go_wp2
                go_meet
                case rel=>exact ⟨_,((a2_0 == 0)),(by first | rfl | (simp;done) | (simp [*];done)),H',⟨by have:=HJ3.out;have:=HJ41.out;have:=HJ52.out;have:=HJ85.out;first | omega | exact Nat.le_refl _⟩,⟨BK224.out⟩,⟨BK225.out⟩,⟨BK226.out⟩,⟨HB.out⟩⟩
              case rest =>
               clear HC121
               try clear c1
               try clear c2
               try clear p2
               try clear c3
               try clear c4
               try clear c5
               try clear c6
               try clear c7
               try clear c8
               try clear c9
               try clear c10
               try clear c11
               try clear c12
               try clear c12b0
               try clear c13
               try clear c14
               try clear c17
               try clear c20
               try clear c21
               try clear c24
               try clear c27
               try clear c28
               try clear c31
               try clear c34
               try clear c35
               try clear c38
               try clear c39
               try clear c40
               try clear c42
               try clear c43
               try clear c43b0
               try clear c43b1
               try clear c44
               try clear c46
               try clear c47
               try clear c49
               try clear c54
               try clear c54b0
               try clear c54b1
               try clear c55
               try clear c56
               try clear c58
               try clear c58b0
               try clear c58b1
               try clear c59
               try clear c60
               try clear c62
               try clear c64
               try clear c65
               try clear c67
               try clear c69
               try clear c70
               try clear c71
               try clear c73
               try clear c73b0
               try clear c73b1
               try clear c74
               try clear c74b0
               try clear c74b1
               try clear c75
               try clear c76
               try clear c78
               try clear c81
               try clear c82
               try clear c84
               try clear c87
               try clear c87b0
               try clear c87b1
               try clear c88
               try clear c88b0
               try clear c88b1
               try clear c89
               try clear c90
               try clear c92
               try clear c95
               try clear c96
               try clear c98
               try clear c101
               try clear c102
               try clear c102b0
               try clear c102b1
               try clear c103
               try clear c104
               try clear c106
               try clear c109
               try clear c110
               try clear c112
               try clear c114
               try clear c115
               try clear c117
               try clear c118
               try clear c119
               try clear c123
               try clear c124
               try clear c126
               try clear c127
               try clear c129
               try clear hcz105_0
               try clear hcz105_1
               try clear hcz105_2
               try clear hcz105_3
               try clear hcz107_0
               try clear hcz107_1
               try clear hcz107_2
               try clear hcz107_3
               try clear hcz111_0
               try clear hcz111_1
               try clear hcz111_2
               try clear hcz111_3
               try clear hcz113_0
               try clear hcz113_1
               try clear hcz113_2
               try clear hcz113_3
               try clear hcz116_0
               try clear hcz116_1
               try clear hcz116_2
               try clear hcz116_3
               try clear hcz120_0
               try clear hcz120_1
               try clear hcz120_2
               try clear hcz120_3
               try clear hcz15_0
               try clear hcz15_1
               try clear hcz15_2
               try clear hcz15_3
               try clear hcz18_0
               try clear hcz18_1
               try clear hcz18_2
               try clear hcz18_3
               try clear hcz22_0
               try clear hcz22_1
               try clear hcz22_2
               try clear hcz22_3
               try clear hcz25_0
               try clear hcz25_1
               try clear hcz25_2
               try clear hcz25_3
               try clear hcz29_0
               try clear hcz29_1
               try clear hcz29_2
               try clear hcz29_3
               try clear hcz32_0
               try clear hcz32_1
               try clear hcz32_2
               try clear hcz32_3
               try clear hcz36_0
               try clear hcz36_1
               try clear hcz36_2
               try clear hcz36_3
               try clear hcz41_0
               try clear hcz41_1
               try clear hcz41_2
               try clear hcz41_3
               try clear hcz48_0
               try clear hcz48_1
               try clear hcz48_2
               try clear hcz48_3
               try clear hcz50_0
               try clear hcz50_1
               try clear hcz50_2
               try clear hcz50_3
               try clear hcz52_0
               try clear hcz52_1
               try clear hcz52_2
               try clear hcz52_3
               try clear hcz57_0
               try clear hcz57_1
               try clear hcz57_2
               try clear hcz57_3
               try clear hcz61_0
               try clear hcz61_1
               try clear hcz61_2
               try clear hcz61_3
               try clear hcz63_0
               try clear hcz63_1
               try clear hcz63_2
               try clear hcz63_3
               try clear hcz66_0
               try clear hcz66_1
               try clear hcz66_2
               try clear hcz66_3
               try clear hcz68_0
               try clear hcz68_1
               try clear hcz68_2
               try clear hcz68_3
               try clear hcz72_0
               try clear hcz72_1
               try clear hcz72_2
               try clear hcz72_3
               try clear hcz77_0
               try clear hcz77_1
               try clear hcz77_2
               try clear hcz77_3
               try clear hcz79_0
               try clear hcz79_1
               try clear hcz79_2
               try clear hcz79_3
               try clear hcz80_0
               try clear hcz80_1
               try clear hcz80_2
               try clear hcz80_3
               try clear hcz83_0
               try clear hcz83_1
               try clear hcz83_2
               try clear hcz83_3
               try clear hcz85_0
               try clear hcz85_1
               try clear hcz85_2
               try clear hcz85_3
               try clear hcz91_0
               try clear hcz91_1
               try clear hcz91_2
               try clear hcz91_3
               try clear hcz93_0
               try clear hcz93_1
               try clear hcz93_2
               try clear hcz93_3
               try clear hcz97_0
               try clear hcz97_1
               try clear hcz97_2
               try clear hcz97_3
               try clear hcz99_0
               try clear hcz99_1
               try clear hcz99_2
               try clear hcz99_3
               try clear hfz105_0
               try clear hfz105_1
               try clear hfz105_2
               try clear hfz105_3
               try clear hfz107_0
               try clear hfz107_1
               try clear hfz107_2
               try clear hfz107_3
               try clear hfz111_0
               try clear hfz111_1
               try clear hfz111_2
               try clear hfz111_3
               try clear hfz113_0
               try clear hfz113_1
               try clear hfz113_2
               try clear hfz113_3
               try clear hfz116_0
               try clear hfz116_1
               try clear hfz116_2
               try clear hfz116_3
               try clear hfz120_0
               try clear hfz120_1
               try clear hfz120_2
               try clear hfz120_3
               try clear hfz15_0
               try clear hfz15_1
               try clear hfz15_2
               try clear hfz15_3
               try clear hfz18_0
               try clear hfz18_1
               try clear hfz18_2
               try clear hfz18_3
               try clear hfz22_0
               try clear hfz22_1
               try clear hfz22_2
               try clear hfz22_3
               try clear hfz25_0
               try clear hfz25_1
               try clear hfz25_2
               try clear hfz25_3
               try clear hfz29_0
               try clear hfz29_1
               try clear hfz29_2
               try clear hfz29_3
               try clear hfz32_0
               try clear hfz32_1
               try clear hfz32_2
               try clear hfz32_3
               try clear hfz36_0
               try clear hfz36_1
               try clear hfz36_2
               try clear hfz36_3
               try clear hfz41_0
               try clear hfz41_1
               try clear hfz41_2
               try clear hfz41_3
               try clear hfz48_0
               try clear hfz48_1
               try clear hfz48_2
               try clear hfz48_3
               try clear hfz50_0
               try clear hfz50_1
               try clear hfz50_2
               try clear hfz50_3
               try clear hfz52_0
               try clear hfz52_1
               try clear hfz52_2
               try clear hfz52_3
               try clear hfz57_0
               try clear hfz57_1
               try clear hfz57_2
               try clear hfz57_3
               try clear hfz61_0
               try clear hfz61_1
               try clear hfz61_2
               try clear hfz61_3
               try clear hfz63_0
               try clear hfz63_1
               try clear hfz63_2
               try clear hfz63_3
               try clear hfz66_0
               try clear hfz66_1
               try clear hfz66_2
               try clear hfz66_3
               try clear hfz68_0
               try clear hfz68_1
               try clear hfz68_2
               try clear hfz68_3
               try clear hfz72_0
               try clear hfz72_1
               try clear hfz72_2
               try clear hfz72_3
               try clear hfz77_0
               try clear hfz77_1
               try clear hfz77_2
               try clear hfz77_3
               try clear hfz79_0
               try clear hfz79_1
               try clear hfz79_2
               try clear hfz79_3
               try clear hfz80_0
               try clear hfz80_1
               try clear hfz80_2
               try clear hfz80_3
               try clear hfz83_0
               try clear hfz83_1
               try clear hfz83_2
               try clear hfz83_3
               try clear hfz85_0
               try clear hfz85_1
               try clear hfz85_2
               try clear hfz85_3
               try clear hfz91_0
               try clear hfz91_1
               try clear hfz91_2
               try clear hfz91_3
               try clear hfz93_0
               try clear hfz93_1
               try clear hfz93_2
               try clear hfz93_3
               try clear hfz97_0
               try clear hfz97_1
               try clear hfz97_2
               try clear hfz97_3
               try clear hfz99_0
               try clear hfz99_1
               try clear hfz99_2
               try clear hfz99_3
               try clear p2
               obtain ⟨kq,x91_120,rfl,HA,HJ120,BK224,BK225,BK226,HB⟩:=hcut
               cases kq with
               | zero=>exact absurd HA.out (by simp [freshetref01_Two.j4])
               | succ kj120 =>
                have H:=HA.out
                clear HA
                simp only [freshetref01_Two.j4] at H
                by_cases c131 : x91_120 = true
                ·subst c131
                 have H1 : (some (0,0,0,(⟨#[]⟩ : ByteArray),0)) = some (r1,r2,r3,r4,r5):=by rw [if_pos rfl] at H;exact H
                 clear H
                 have H:=H1
                 clear H1
                 simp only [Option.some.injEq,Prod.mk.injEq] at H
                 obtain ⟨rfl,rfl,rfl,rfl,rfl⟩:=H
                 have hnb132:=NB226_224.out
                 have hnc132:=NB224_226.out
                 have hnb133:=NB226_225.out
                 have hnc133:=NB225_226.out
                 obtain ⟨hcz134_0,hcz134_1,hcz134_2,hcz134_3,hfz134_0,hfz134_1,hfz134_2,hfz134_3⟩:=blk_all4 BK226.out
                 go_wp2
                 refine bodyPost_ret (results_ct rfl _ _ gb226 29 #[.int .i64 0,.int .i64 0,.int .u64 0,.string (⟨#[]⟩ : ByteArray)] (0,0) _ rfl (blk_puts4 BK226.out rfl) Tryz.underlying29 rfl (by kernel_rfl)) rfl ?_
                 exact ⟨by first | rfl | (simp [errW_none,errW_some] <;> rfl) | (simp [*,errW_none,errW_some] <;> rfl),by repeat (first | (with_reducible first | exact HB.out | apply below_alloc | apply pw_below_drewN | apply below_drew1 | refine below_set ?_ GE224.out | refine below_set ?_ GE225.out | refine below_set ?_ GE226.out) | exact HB.out)⟩
                ·replace c131:=Bool.eq_false_iff.mpr c131
                 subst c131
                 have H1 : ((xrCompare.f a1_0 a1_1 a1_2 a1_3 a2_0 a2_1 a2_2 a2_3).bind fun t237=>(if a0 = 16 then ((freshetref01_OfBool.f (t237 == 0)).bind fun bt238=>(some (bt238.1,bt238.2.1,bt238.2.2.1,bt238.2.2.2,0))) else (if a0 = 17 then ((freshetref01_OfBool.f (t237 != 0)).bind fun bt242=>(some (bt242.1,bt242.2.1,bt242.2.2.1,bt242.2.2.2,0))) else (if a0 = 18 then ((freshetref01_OfBool.f (decide (t237 < 0))).bind fun bt246=>(some (bt246.1,bt246.2.1,bt246.2.2.1,bt246.2.2.2,0))) else (if a0 = 19 then ((freshetref01_OfBool.f (decide (t237 ≤ 0))).bind fun bt250=>(some (bt250.1,bt250.2.1,bt250.2.2.1,bt250.2.2.2,0))) else (if a0 = 20 then ((freshetref01_OfBool.f (decide (t237 > 0))).bind fun bt254=>(some (bt254.1,bt254.2.1,bt254.2.2.1,bt254.2.2.2,0))) else (if a0 = 21 then ((freshetref01_OfBool.f (decide (t237 ≥ 0))).bind fun bt258=>(some (bt258.1,bt258.2.1,bt258.2.2.1,bt258.2.2.2,0))) else (if a0 = 15 then (if a1_3.size + a2_3.size ≤ 9223372036854775807 then ((freshetref01_OfText.f (a1_3 ++ a2_3)).bind fun bt262=>(some (bt262.1,bt262.2.1,bt262.2.2.1,bt262.2.2.2.1,bt262.2.2.2.2))) else (none)) else (if a1_0 = 3 then ((xrFloats.f a0 a1_2 a2_2).bind fun bt267=>(some (bt267.1,bt267.2.1,bt267.2.2.1,bt267.2.2.2,0))) else ((freshetref01_ints.f a0 a1_1 a2_1).bind fun bt271=>(some (bt271.1,bt271.2.1,bt271.2.2.1,bt271.2.2.2.1,bt271.2.2.2.2)))))))))))) = some (r1,r2,r3,r4,r5):=by rw [if_neg (show ¬ (false = true) by decide)] at H;exact H
                 clear H
                 have H:=H1
                 clear H1
                 replace H:=Option.bind_eq_some_iff.mp H
                 obtain ⟨t237,A1350,H⟩:=H
                 replace H : (if a0 = 16 then ((freshetref01_OfBool.f (t237 == 0)).bind fun bt238=>(some (bt238.1,bt238.2.1,bt238.2.2.1,bt238.2.2.2,0))) else (if a0 = 17 then ((freshetref01_OfBool.f (t237 != 0)).bind fun bt242=>(some (bt242.1,bt242.2.1,bt242.2.2.1,bt242.2.2.2,0))) else (if a0 = 18 then ((freshetref01_OfBool.f (decide (t237 < 0))).bind fun bt246=>(some (bt246.1,bt246.2.1,bt246.2.2.1,bt246.2.2.2,0))) else (if a0 = 19 then ((freshetref01_OfBool.f (decide (t237 ≤ 0))).bind fun bt250=>(some (bt250.1,bt250.2.1,bt250.2.2.1,bt250.2.2.2,0))) else (if a0 = 20 then ((freshetref01_OfBool.f (decide (t237 > 0))).bind fun bt254=>(some (bt254.1,bt254.2.1,bt254.2.2.1,bt254.2.2.2,0))) else (if a0 = 21 then ((freshetref01_OfBool.f (decide (t237 ≥ 0))).bind fun bt258=>(some (bt258.1,bt258.2.1,bt258.2.2.1,bt258.2.2.2,0))) else (if a0 = 15 then (if a1_3.size + a2_3.size ≤ 9223372036854775807 then ((freshetref01_OfText.f (a1_3 ++ a2_3)).bind fun bt262=>(some (bt262.1,bt262.2.1,bt262.2.2.1,bt262.2.2.2.1,bt262.2.2.2.2))) else (none)) else (if a1_0 = 3 then ((xrFloats.f a0 a1_2 a2_2).bind fun bt267=>(some (bt267.1,bt267.2.1,bt267.2.2.1,bt267.2.2.2,0))) else ((freshetref01_ints.f a0 a1_1 a2_1).bind fun bt271=>(some (bt271.1,bt271.2.1,bt271.2.2.1,bt271.2.2.2.1,bt271.2.2.2.2))))))))))) = some (r1,r2,r3,r4,r5):=H
                 have A135:=Aside0.mk A1350
                 clear A1350
                 by_cases c136 : a0 = 16
                 ·rw [if_pos c136] at H
                  have c136b0 : (a0 == 16) = true:=beq_iff_eq.mpr c136
                  have c136b1 : (a0 != 16) = false:=bne_eq_false_iff_eq.mpr c136
                  clear c136
                  replace H:=Option.bind_eq_some_iff.mp H
                  obtain ⟨⟨t238,t239,t240,t241⟩,A1370,H⟩:=H
                  replace H : (some (t238,t239,t240,t241,0)) = some (r1,r2,r3,r4,r5):=H
                  have A137:=Aside0.mk A1370
                  clear A1370
                  simp only [Option.some.injEq,Prod.mk.injEq] at H
                  obtain ⟨rfl,rfl,rfl,rfl,rfl⟩:=H
                  have hnb138:=NB224_225.out
                  have hnc138:=NB225_224.out
                  have hnb139:=NB224_226.out
                  have hnc139:=NB226_224.out
                  obtain ⟨hcz140_0,hcz140_1,hcz140_2,hcz140_3,hfz140_0,hfz140_1,hfz140_2,hfz140_3⟩:=blk_all4 BK224.out
                  have hnb141:=NB225_226.out
                  have hnc141:=NB226_225.out
                  obtain ⟨hcz142_0,hcz142_1,hcz142_2,hcz142_3,hfz142_0,hfz142_1,hfz142_2,hfz142_3⟩:=blk_all4 BK225.out
                  go_wp2_with (first | (go_at_call 72;(with_reducible refine (xrCompare.calls a1_0 a1_1 a1_2 a1_3 a2_0 a2_1 a2_2 a2_3 t237 _ A135.out).mono ?_);rintro e w143 ⟨rfl,hb⟩;have n0_:=Aside0.mk (blk_below BK224.out hb);have n1_:=Aside0.mk (blk_below BK225.out hb);have n2_:=Aside0.mk (blk_below BK226.out hb);have n3_:=Aside0.mk (below_step HB.out hb);clear BK224;clear BK225;clear BK226;clear HB;have BK224:=n0_;have BK225:=n1_;have BK226:=n2_;have HB:=n3_;clear n0_ n1_ n2_ n3_;(try clear hb)) | (go_at_call 66;(with_reducible refine (freshetref01_OfBool.calls (t237 == 0) t238 t239 t240 t241 _ A137.out).mono ?_);rintro e w144 ⟨rfl,hb⟩;have n0_:=Aside0.mk (blk_below BK224.out hb);have n1_:=Aside0.mk (blk_below BK225.out hb);have n2_:=Aside0.mk (blk_below BK226.out hb);have n3_:=Aside0.mk (below_step HB.out hb);clear BK224;clear BK225;clear BK226;clear HB;have BK224:=n0_;have BK225:=n1_;have BK226:=n2_;have HB:=n3_;clear n0_ n1_ n2_ n3_;(try clear hb);obtain ⟨hcz145_0,hcz145_1,hcz145_2,hcz145_3,hfz145_0,hfz145_1,hfz145_2,hfz145_3⟩:=blk_all4 BK226.out))
                  refine bodyPost_ret (results_ct rfl _ _ gb226 29 #[.int .i64 t238,.int .i64 t239,.int .u64 t240,.string t241] (0,0) _ rfl (blk_puts4 BK226.out rfl) Tryz.underlying29 rfl (by kernel_rfl)) rfl ?_
                  exact ⟨by first | rfl | (simp [errW_none,errW_some] <;> rfl) | (simp [*,errW_none,errW_some] <;> rfl),by repeat (first | (with_reducible first | exact HB.out | apply below_alloc | apply pw_below_drewN | apply below_drew1 | refine below_set ?_ GE224.out | refine below_set ?_ GE225.out | refine below_set ?_ GE226.out) | exact HB.out)⟩
                 ·rw [if_neg c136] at H
                  have c136b0 : (a0 == 16) = false:=beq_eq_false_iff_ne.mpr c136
                  have c136b1 : (a0 != 16) = true:=bne_iff_ne.mpr c136
                  by_cases c146 : a0 = 17
                  ·rw [if_pos c146] at H
                   have c146b0 : (a0 == 17) = true:=beq_iff_eq.mpr c146
                   have c146b1 : (a0 != 17) = false:=bne_eq_false_iff_eq.mpr c146
                   clear c146
                   replace H:=Option.bind_eq_some_iff.mp H
                   obtain ⟨⟨t242,t243,t244,t245⟩,A1470,H⟩:=H
                   replace H : (some (t242,t243,t244,t245,0)) = some (r1,r2,r3,r4,r5):=H
                   have A147:=Aside0.mk A1470
                   clear A1470
                   simp only [Option.some.injEq,Prod.mk.injEq] at H
                   obtain ⟨rfl,rfl,rfl,rfl,rfl⟩:=H
                   have hnb148:=NB224_225.out
                   have hnc148:=NB225_224.out
                   have hnb149:=NB224_226.out
                   have hnc149:=NB226_224.out
                   obtain ⟨hcz150_0,hcz150_1,hcz150_2,hcz150_3,hfz150_0,hfz150_1,hfz150_2,hfz150_3⟩:=blk_all4 BK224.out
                   have hnb151:=NB225_226.out
                   have hnc151:=NB226_225.out
                   obtain ⟨hcz152_0,hcz152_1,hcz152_2,hcz152_3,hfz152_0,hfz152_1,hfz152_2,hfz152_3⟩:=blk_all4 BK225.out
                   go_wp2_with (first | (go_at_call 72;(with_reducible refine (xrCompare.calls a1_0 a1_1 a1_2 a1_3 a2_0 a2_1 a2_2 a2_3 t237 _ A135.out).mono ?_);rintro e w153 ⟨rfl,hb⟩;have n0_:=Aside0.mk (blk_below BK224.out hb);have n1_:=Aside0.mk (blk_below BK225.out hb);have n2_:=Aside0.mk (blk_below BK226.out hb);have n3_:=Aside0.mk (below_step HB.out hb);clear BK224;clear BK225;clear BK226;clear HB;have BK224:=n0_;have BK225:=n1_;have BK226:=n2_;have HB:=n3_;clear n0_ n1_ n2_ n3_;(try clear hb)) | (go_at_call 66;(with_reducible refine (freshetref01_OfBool.calls (t237 != 0) t242 t243 t244 t245 _ A147.out).mono ?_);rintro e w154 ⟨rfl,hb⟩;have n0_:=Aside0.mk (blk_below BK224.out hb);have n1_:=Aside0.mk (blk_below BK225.out hb);have n2_:=Aside0.mk (blk_below BK226.out hb);have n3_:=Aside0.mk (below_step HB.out hb);clear BK224;clear BK225;clear BK226;clear HB;have BK224:=n0_;have BK225:=n1_;have BK226:=n2_;have HB:=n3_;clear n0_ n1_ n2_ n3_;(try clear hb);obtain ⟨hcz155_0,hcz155_1,hcz155_2,hcz155_3,hfz155_0,hfz155_1,hfz155_2,hfz155_3⟩:=blk_all4 BK226.out))
                   refine bodyPost_ret (results_ct rfl _ _ gb226 29 #[.int .i64 t242,.int .i64 t243,.int .u64 t244,.string t245] (0,0) _ rfl (blk_puts4 BK226.out rfl) Tryz.underlying29 rfl (by kernel_rfl)) rfl ?_
                   exact ⟨by first | rfl | (simp [errW_none,errW_some] <;> rfl) | (simp [*,errW_none,errW_some] <;> rfl),by repeat (first | (with_reducible first | exact HB.out | apply below_alloc | apply pw_below_drewN | apply below_drew1 | refine below_set ?_ GE224.out | refine below_set ?_ GE225.out | refine below_set ?_ GE226.out) | exact HB.out)⟩
                  ·rw [if_neg c146] at H
                   have c146b0 : (a0 == 17) = false:=beq_eq_false_iff_ne.mpr c146
                   have c146b1 : (a0 != 17) = true:=bne_iff_ne.mpr c146
                   by_cases c156 : a0 = 18
                   ·rw [if_pos c156] at H
                    have c156b0 : (a0 == 18) = true:=beq_iff_eq.mpr c156
                    have c156b1 : (a0 != 18) = false:=bne_eq_false_iff_eq.mpr c156
                    clear c156
                    replace H:=Option.bind_eq_some_iff.mp H
                    obtain ⟨⟨t246,t247,t248,t249⟩,A1570,H⟩:=H
                    replace H : (some (t246,t247,t248,t249,0)) = some (r1,r2,r3,r4,r5):=H
                    have A157:=Aside0.mk A1570
                    clear A1570
                    simp only [Option.some.injEq,Prod.mk.injEq] at H
                    obtain ⟨rfl,rfl,rfl,rfl,rfl⟩:=H
                    have hnb158:=NB224_225.out
                    have hnc158:=NB225_224.out
                    have hnb159:=NB224_226.out
                    have hnc159:=NB226_224.out
                    obtain ⟨hcz160_0,hcz160_1,hcz160_2,hcz160_3,hfz160_0,hfz160_1,hfz160_2,hfz160_3⟩:=blk_all4 BK224.out
                    have hnb161:=NB225_226.out
                    have hnc161:=NB226_225.out
                    obtain ⟨hcz162_0,hcz162_1,hcz162_2,hcz162_3,hfz162_0,hfz162_1,hfz162_2,hfz162_3⟩:=blk_all4 BK225.out
                    go_wp2_with (first | (go_at_call 72;(with_reducible refine (xrCompare.calls a1_0 a1_1 a1_2 a1_3 a2_0 a2_1 a2_2 a2_3 t237 _ A135.out).mono ?_);rintro e w163 ⟨rfl,hb⟩;have n0_:=Aside0.mk (blk_below BK224.out hb);have n1_:=Aside0.mk (blk_below BK225.out hb);have n2_:=Aside0.mk (blk_below BK226.out hb);have n3_:=Aside0.mk (below_step HB.out hb);clear BK224;clear BK225;clear BK226;clear HB;have BK224:=n0_;have BK225:=n1_;have BK226:=n2_;have HB:=n3_;clear n0_ n1_ n2_ n3_;(try clear hb)) | (go_at_call 66;(with_reducible refine (freshetref01_OfBool.calls (decide (t237 < 0)) t246 t247 t248 t249 _ A157.out).mono ?_);rintro e w164 ⟨rfl,hb⟩;have n0_:=Aside0.mk (blk_below BK224.out hb);have n1_:=Aside0.mk (blk_below BK225.out hb);have n2_:=Aside0.mk (blk_below BK226.out hb);have n3_:=Aside0.mk (below_step HB.out hb);clear BK224;clear BK225;clear BK226;clear HB;have BK224:=n0_;have BK225:=n1_;have BK226:=n2_;have HB:=n3_;clear n0_ n1_ n2_ n3_;(try clear hb);obtain ⟨hcz165_0,hcz165_1,hcz165_2,hcz165_3,hfz165_0,hfz165_1,hfz165_2,hfz165_3⟩:=blk_all4 BK226.out))
                    refine bodyPost_ret (results_ct rfl _ _ gb226 29 #[.int .i64 t246,.int .i64 t247,.int .u64 t248,.string t249] (0,0) _ rfl (blk_puts4 BK226.out rfl) Tryz.underlying29 rfl (by kernel_rfl)) rfl ?_
                    exact ⟨by first | rfl | (simp [errW_none,errW_some] <;> rfl) | (simp [*,errW_none,errW_some] <;> rfl),by repeat (first | (with_reducible first | exact HB.out | apply below_alloc | apply pw_below_drewN | apply below_drew1 | refine below_set ?_ GE224.out | refine below_set ?_ GE225.out | refine below_set ?_ GE226.out) | exact HB.out)⟩
                   ·rw [if_neg c156] at H
                    have c156b0 : (a0 == 18) = false:=beq_eq_false_iff_ne.mpr c156
                    have c156b1 : (a0 != 18) = true:=bne_iff_ne.mpr c156
                    by_cases c166 : a0 = 19
                    ·rw [if_pos c166] at H
                     have c166b0 : (a0 == 19) = true:=beq_iff_eq.mpr c166
                     have c166b1 : (a0 != 19) = false:=bne_eq_false_iff_eq.mpr c166
                     clear c166
                     replace H:=Option.bind_eq_some_iff.mp H
                     obtain ⟨⟨t250,t251,t252,t253⟩,A1670,H⟩:=H
                     replace H : (some (t250,t251,t252,t253,0)) = some (r1,r2,r3,r4,r5):=H
                     have A167:=Aside0.mk A1670
                     clear A1670
                     simp only [Option.some.injEq,Prod.mk.injEq] at H
                     obtain ⟨rfl,rfl,rfl,rfl,rfl⟩:=H
                     have hnb168:=NB224_225.out
                     have hnc168:=NB225_224.out
                     have hnb169:=NB224_226.out
                     have hnc169:=NB226_224.out
                     obtain ⟨hcz170_0,hcz170_1,hcz170_2,hcz170_3,hfz170_0,hfz170_1,hfz170_2,hfz170_3⟩:=blk_all4 BK224.out
                     have hnb171:=NB225_226.out
                     have hnc171:=NB226_225.out
                     obtain ⟨hcz172_0,hcz172_1,hcz172_2,hcz172_3,hfz172_0,hfz172_1,hfz172_2,hfz172_3⟩:=blk_all4 BK225.out
                     go_wp2_with (first | (go_at_call 72;(with_reducible refine (xrCompare.calls a1_0 a1_1 a1_2 a1_3 a2_0 a2_1 a2_2 a2_3 t237 _ A135.out).mono ?_);rintro e w173 ⟨rfl,hb⟩;have n0_:=Aside0.mk (blk_below BK224.out hb);have n1_:=Aside0.mk (blk_below BK225.out hb);have n2_:=Aside0.mk (blk_below BK226.out hb);have n3_:=Aside0.mk (below_step HB.out hb);clear BK224;clear BK225;clear BK226;clear HB;have BK224:=n0_;have BK225:=n1_;have BK226:=n2_;have HB:=n3_;clear n0_ n1_ n2_ n3_;(try clear hb)) | (go_at_call 66;(with_reducible refine (freshetref01_OfBool.calls (decide (t237 ≤ 0)) t250 t251 t252 t253 _ A167.out).mono ?_);rintro e w174 ⟨rfl,hb⟩;have n0_:=Aside0.mk (blk_below BK224.out hb);have n1_:=Aside0.mk (blk_below BK225.out hb);have n2_:=Aside0.mk (blk_below BK226.out hb);have n3_:=Aside0.mk (below_step HB.out hb);clear BK224;clear BK225;clear BK226;clear HB;have BK224:=n0_;have BK225:=n1_;have BK226:=n2_;have HB:=n3_;clear n0_ n1_ n2_ n3_;(try clear hb);obtain ⟨hcz175_0,hcz175_1,hcz175_2,hcz175_3,hfz175_0,hfz175_1,hfz175_2,hfz175_3⟩:=blk_all4 BK226.out))
                     refine bodyPost_ret (results_ct rfl _ _ gb226 29 #[.int .i64 t250,.int .i64 t251,.int .u64 t252,.string t253] (0,0) _ rfl (blk_puts4 BK226.out rfl) Tryz.underlying29 rfl (by kernel_rfl)) rfl ?_
                     exact ⟨by first | rfl | (simp [errW_none,errW_some] <;> rfl) | (simp [*,errW_none,errW_some] <;> rfl),by repeat (first | (with_reducible first | exact HB.out | apply below_alloc | apply pw_below_drewN | apply below_drew1 | refine below_set ?_ GE224.out | refine below_set ?_ GE225.out | refine below_set ?_ GE226.out) | exact HB.out)⟩
                    ·rw [if_neg c166] at H
                     have c166b0 : (a0 == 19) = false:=beq_eq_false_iff_ne.mpr c166
                     have c166b1 : (a0 != 19) = true:=bne_iff_ne.mpr c166
                     by_cases c176 : a0 = 20
                     ·rw [if_pos c176] at H
                      have c176b0 : (a0 == 20) = true:=beq_iff_eq.mpr c176
                      have c176b1 : (a0 != 20) = false:=bne_eq_false_iff_eq.mpr c176
                      clear c176
                      replace H:=Option.bind_eq_some_iff.mp H
                      obtain ⟨⟨t254,t255,t256,t257⟩,A1770,H⟩:=H
                      replace H : (some (t254,t255,t256,t257,0)) = some (r1,r2,r3,r4,r5):=H
                      have A177:=Aside0.mk A1770
                      clear A1770
                      simp only [Option.some.injEq,Prod.mk.injEq] at H
                      obtain ⟨rfl,rfl,rfl,rfl,rfl⟩:=H
                      have hnb178:=NB224_225.out
                      have hnc178:=NB225_224.out
                      have hnb179:=NB224_226.out
                      have hnc179:=NB226_224.out
                      obtain ⟨hcz180_0,hcz180_1,hcz180_2,hcz180_3,hfz180_0,hfz180_1,hfz180_2,hfz180_3⟩:=blk_all4 BK224.out
                      have hnb181:=NB225_226.out
                      have hnc181:=NB226_225.out
                      obtain ⟨hcz182_0,hcz182_1,hcz182_2,hcz182_3,hfz182_0,hfz182_1,hfz182_2,hfz182_3⟩:=blk_all4 BK225.out
                      go_wp2_with (first | (go_at_call 72;(with_reducible refine (xrCompare.calls a1_0 a1_1 a1_2 a1_3 a2_0 a2_1 a2_2 a2_3 t237 _ A135.out).mono ?_);rintro e w183 ⟨rfl,hb⟩;have n0_:=Aside0.mk (blk_below BK224.out hb);have n1_:=Aside0.mk (blk_below BK225.out hb);have n2_:=Aside0.mk (blk_below BK226.out hb);have n3_:=Aside0.mk (below_step HB.out hb);clear BK224;clear BK225;clear BK226;clear HB;have BK224:=n0_;have BK225:=n1_;have BK226:=n2_;have HB:=n3_;clear n0_ n1_ n2_ n3_;(try clear hb)) | (go_at_call 66;(with_reducible refine (freshetref01_OfBool.calls (decide (t237 > 0)) t254 t255 t256 t257 _ A177.out).mono ?_);rintro e w184 ⟨rfl,hb⟩;have n0_:=Aside0.mk (blk_below BK224.out hb);have n1_:=Aside0.mk (blk_below BK225.out hb);have n2_:=Aside0.mk (blk_below BK226.out hb);have n3_:=Aside0.mk (below_step HB.out hb);clear BK224;clear BK225;clear BK226;clear HB;have BK224:=n0_;have BK225:=n1_;have BK226:=n2_;have HB:=n3_;clear n0_ n1_ n2_ n3_;(try clear hb);obtain ⟨hcz185_0,hcz185_1,hcz185_2,hcz185_3,hfz185_0,hfz185_1,hfz185_2,hfz185_3⟩:=blk_all4 BK226.out))
                      refine bodyPost_ret (results_ct rfl _ _ gb226 29 #[.int .i64 t254,.int .i64 t255,.int .u64 t256,.string t257] (0,0) _ rfl (blk_puts4 BK226.out rfl) Tryz.underlying29 rfl (by kernel_rfl)) rfl ?_
                      exact ⟨by first | rfl | (simp [errW_none,errW_some] <;> rfl) | (simp [*,errW_none,errW_some] <;> rfl),by repeat (first | (with_reducible first | exact HB.out | apply below_alloc | apply pw_below_drewN | apply below_drew1 | refine below_set ?_ GE224.out | refine below_set ?_ GE225.out | refine below_set ?_ GE226.out) | exact HB.out)⟩
                     ·rw [if_neg c176] at H
                      have c176b0 : (a0 == 20) = false:=beq_eq_false_iff_ne.mpr c176
                      have c176b1 : (a0 != 20) = true:=bne_iff_ne.mpr c176
                      by_cases c186 : a0 = 21
                      ·rw [if_pos c186] at H
                       have c186b0 : (a0 == 21) = true:=beq_iff_eq.mpr c186
                       have c186b1 : (a0 != 21) = false:=bne_eq_false_iff_eq.mpr c186
                       clear c186
                       replace H:=Option.bind_eq_some_iff.mp H
                       obtain ⟨⟨t258,t259,t260,t261⟩,A1870,H⟩:=H
                       replace H : (some (t258,t259,t260,t261,0)) = some (r1,r2,r3,r4,r5):=H
                       have A187:=Aside0.mk A1870
                       clear A1870
                       simp only [Option.some.injEq,Prod.mk.injEq] at H
                       obtain ⟨rfl,rfl,rfl,rfl,rfl⟩:=H
                       have hnb188:=NB224_225.out
                       have hnc188:=NB225_224.out
                       have hnb189:=NB224_226.out
                       have hnc189:=NB226_224.out
                       obtain ⟨hcz190_0,hcz190_1,hcz190_2,hcz190_3,hfz190_0,hfz190_1,hfz190_2,hfz190_3⟩:=blk_all4 BK224.out
                       have hnb191:=NB225_226.out
                       have hnc191:=NB226_225.out
                       obtain ⟨hcz192_0,hcz192_1,hcz192_2,hcz192_3,hfz192_0,hfz192_1,hfz192_2,hfz192_3⟩:=blk_all4 BK225.out
                       go_wp2_with (first | (go_at_call 72;(with_reducible refine (xrCompare.calls a1_0 a1_1 a1_2 a1_3 a2_0 a2_1 a2_2 a2_3 t237 _ A135.out).mono ?_);rintro e w193 ⟨rfl,hb⟩;have n0_:=Aside0.mk (blk_below BK224.out hb);have n1_:=Aside0.mk (blk_below BK225.out hb);have n2_:=Aside0.mk (blk_below BK226.out hb);have n3_:=Aside0.mk (below_step HB.out hb);clear BK224;clear BK225;clear BK226;clear HB;have BK224:=n0_;have BK225:=n1_;have BK226:=n2_;have HB:=n3_;clear n0_ n1_ n2_ n3_;(try clear hb)) | (go_at_call 66;(with_reducible refine (freshetref01_OfBool.calls (decide (t237 ≥ 0)) t258 t259 t260 t261 _ A187.out).mono ?_);rintro e w194 ⟨rfl,hb⟩;have n0_:=Aside0.mk (blk_below BK224.out hb);have n1_:=Aside0.mk (blk_below BK225.out hb);have n2_:=Aside0.mk (blk_below BK226.out hb);have n3_:=Aside0.mk (below_step HB.out hb);clear BK224;clear BK225;clear BK226;clear HB;have BK224:=n0_;have BK225:=n1_;have BK226:=n2_;have HB:=n3_;clear n0_ n1_ n2_ n3_;(try clear hb);obtain ⟨hcz195_0,hcz195_1,hcz195_2,hcz195_3,hfz195_0,hfz195_1,hfz195_2,hfz195_3⟩:=blk_all4 BK226.out))
                       refine bodyPost_ret (results_ct rfl _ _ gb226 29 #[.int .i64 t258,.int .i64 t259,.int .u64 t260,.string t261] (0,0) _ rfl (blk_puts4 BK226.out rfl) Tryz.underlying29 rfl (by kernel_rfl)) rfl ?_
                       exact ⟨by first | rfl | (simp [errW_none,errW_some] <;> rfl) | (simp [*,errW_none,errW_some] <;> rfl),by repeat (first | (with_reducible first | exact HB.out | apply below_alloc | apply pw_below_drewN | apply below_drew1 | refine below_set ?_ GE224.out | refine below_set ?_ GE225.out | refine below_set ?_ GE226.out) | exact HB.out)⟩
                      ·rw [if_neg c186] at H
                       have c186b0 : (a0 == 21) = false:=beq_eq_false_iff_ne.mpr c186
                       have c186b1 : (a0 != 21) = true:=bne_iff_ne.mpr c186
                       by_cases c196 : a0 = 15
                       ·rw [if_pos c196] at H
                        have c196b0 : (a0 == 15) = true:=beq_iff_eq.mpr c196
                        have c196b1 : (a0 != 15) = false:=bne_eq_false_iff_eq.mpr c196
                        clear c196
                        by_cases c197 : a1_3.size + a2_3.size ≤ 9223372036854775807
                        ·rw [if_pos c197] at H
                         have c197b0:=eq_true c197
                         have c197b1 : decide (a1_3.size + a2_3.size ≤ 9223372036854775807) = true:=decide_eq_true c197
                         try have c197b2 : (9223372036854775807 < a1_3.size + a2_3.size) = False:=eq_false (Nat.not_lt.2 c197)
                         replace H:=Option.bind_eq_some_iff.mp H
                         obtain ⟨⟨t262,t263,t264,t265,t266⟩,A1980,H⟩:=H
                         replace H : (some (t262,t263,t264,t265,t266)) = some (r1,r2,r3,r4,r5):=H
                         have A198:=Aside0.mk A1980
                         clear A1980
                         simp only [Option.some.injEq,Prod.mk.injEq] at H
                         obtain ⟨rfl,rfl,rfl,rfl,rfl⟩:=H
                         have hnb199:=NB224_225.out
                         have hnc199:=NB225_224.out
                         have hnb200:=NB224_226.out
                         have hnc200:=NB226_224.out
                         obtain ⟨hcz201_0,hcz201_1,hcz201_2,hcz201_3,hfz201_0,hfz201_1,hfz201_2,hfz201_3⟩:=blk_all4 BK224.out
                         have hnb202:=NB225_226.out
                         have hnc202:=NB226_225.out
                         obtain ⟨hcz203_0,hcz203_1,hcz203_2,hcz203_3,hfz203_0,hfz203_1,hfz203_2,hfz203_3⟩:=blk_all4 BK225.out
                         go_wp2_with (first | (go_at_call 72;(with_reducible refine (xrCompare.calls a1_0 a1_1 a1_2 a1_3 a2_0 a2_1 a2_2 a2_3 t237 _ A135.out).mono ?_);rintro e w204 ⟨rfl,hb⟩;have n0_:=Aside0.mk (blk_below BK224.out hb);have n1_:=Aside0.mk (blk_below BK225.out hb);have n2_:=Aside0.mk (blk_below BK226.out hb);have n3_:=Aside0.mk (below_step HB.out hb);clear BK224;clear BK225;clear BK226;clear HB;have BK224:=n0_;have BK225:=n1_;have BK226:=n2_;have HB:=n3_;clear n0_ n1_ n2_ n3_;(try clear hb);obtain ⟨hcz205_0,hcz205_1,hcz205_2,hcz205_3,hfz205_0,hfz205_1,hfz205_2,hfz205_3⟩:=blk_all4 BK224.out;obtain ⟨hcz206_0,hcz206_1,hcz206_2,hcz206_3,hfz206_0,hfz206_1,hfz206_2,hfz206_3⟩:=blk_all4 BK225.out) | (go_at_call 73;(with_reducible refine (freshetref01_OfText.calls (a1_3 ++ a2_3) t262 t263 t264 t265 t266 _ A198.out).mono ?_);rintro e w207 ⟨rfl,hb⟩;have n0_:=Aside0.mk (blk_below BK224.out hb);have n1_:=Aside0.mk (blk_below BK225.out hb);have n2_:=Aside0.mk (blk_below BK226.out hb);have n3_:=Aside0.mk (below_step HB.out hb);clear BK224;clear BK225;clear BK226;clear HB;have BK224:=n0_;have BK225:=n1_;have BK226:=n2_;have HB:=n3_;clear n0_ n1_ n2_ n3_;(try clear hb);obtain ⟨hcz208_0,hcz208_1,hcz208_2,hcz208_3,hfz208_0,hfz208_1,hfz208_2,hfz208_3⟩:=blk_all4 BK226.out))
                         refine bodyPost_ret (results_ct rfl _ _ gb226 29 #[.int .i64 t262,.int .i64 t263,.int .u64 t264,.string t265] (0,0) _ rfl (blk_puts4 BK226.out rfl) Tryz.underlying29 rfl (by kernel_rfl)) rfl ?_
                         exact ⟨by first | rfl | (simp [errW_none,errW_some] <;> rfl) | (simp [*,errW_none,errW_some] <;> rfl),by repeat (first | (with_reducible first | exact HB.out | apply below_alloc | apply pw_below_drewN | apply below_drew1 | refine below_set ?_ GE224.out | refine below_set ?_ GE225.out | refine below_set ?_ GE226.out) | exact HB.out)⟩
                        ·rw [if_neg c197] at H
                         exact absurd H (by simp)
                       ·rw [if_neg c196] at H
                        have c196b0 : (a0 == 15) = false:=beq_eq_false_iff_ne.mpr c196
                        have c196b1 : (a0 != 15) = true:=bne_iff_ne.mpr c196
                        by_cases c209 : a1_0 = 3
                        ·rw [if_pos c209] at H
                         have c209b0 : (a1_0 == 3) = true:=beq_iff_eq.mpr c209
                         have c209b1 : (a1_0 != 3) = false:=bne_eq_false_iff_eq.mpr c209
                         clear c209
                         replace H:=Option.bind_eq_some_iff.mp H
                         obtain ⟨⟨t267,t268,t269,t270⟩,A2100,H⟩:=H
                         replace H : (some (t267,t268,t269,t270,0)) = some (r1,r2,r3,r4,r5):=H
                         have A210:=Aside0.mk A2100
                         clear A2100
                         simp only [Option.some.injEq,Prod.mk.injEq] at H
                         obtain ⟨rfl,rfl,rfl,rfl,rfl⟩:=H
                         have hnb211:=NB224_225.out
                         have hnc211:=NB225_224.out
                         have hnb212:=NB224_226.out
                         have hnc212:=NB226_224.out
                         obtain ⟨hcz213_0,hcz213_1,hcz213_2,hcz213_3,hfz213_0,hfz213_1,hfz213_2,hfz213_3⟩:=blk_all4 BK224.out
                         have hnb214:=NB225_226.out
                         have hnc214:=NB226_225.out
                         obtain ⟨hcz215_0,hcz215_1,hcz215_2,hcz215_3,hfz215_0,hfz215_1,hfz215_2,hfz215_3⟩:=blk_all4 BK225.out
                         go_wp2_with (first | (go_at_call 72;(with_reducible refine (xrCompare.calls a1_0 a1_1 a1_2 a1_3 a2_0 a2_1 a2_2 a2_3 t237 _ A135.out).mono ?_);rintro e w216 ⟨rfl,hb⟩;have n0_:=Aside0.mk (blk_below BK224.out hb);have n1_:=Aside0.mk (blk_below BK225.out hb);have n2_:=Aside0.mk (blk_below BK226.out hb);have n3_:=Aside0.mk (below_step HB.out hb);clear BK224;clear BK225;clear BK226;clear HB;have BK224:=n0_;have BK225:=n1_;have BK226:=n2_;have HB:=n3_;clear n0_ n1_ n2_ n3_;(try clear hb);obtain ⟨hcz217_0,hcz217_1,hcz217_2,hcz217_3,hfz217_0,hfz217_1,hfz217_2,hfz217_3⟩:=blk_all4 BK224.out;obtain ⟨hcz218_0,hcz218_1,hcz218_2,hcz218_3,hfz218_0,hfz218_1,hfz218_2,hfz218_3⟩:=blk_all4 BK225.out) | (go_at_call 74;(with_reducible refine (xrFloats.calls a0 a1_2 a2_2 t267 t268 t269 t270 _ A210.out).mono ?_);rintro e w219 ⟨rfl,hb⟩;have n0_:=Aside0.mk (blk_below BK224.out hb);have n1_:=Aside0.mk (blk_below BK225.out hb);have n2_:=Aside0.mk (blk_below BK226.out hb);have n3_:=Aside0.mk (below_step HB.out hb);clear BK224;clear BK225;clear BK226;clear HB;have BK224:=n0_;have BK225:=n1_;have BK226:=n2_;have HB:=n3_;clear n0_ n1_ n2_ n3_;(try clear hb);obtain ⟨hcz220_0,hcz220_1,hcz220_2,hcz220_3,hfz220_0,hfz220_1,hfz220_2,hfz220_3⟩:=blk_all4 BK226.out))
                         refine bodyPost_ret (results_ct rfl _ _ gb226 29 #[.int .i64 t267,.int .i64 t268,.int .u64 t269,.string t270] (0,0) _ rfl (blk_puts4 BK226.out rfl) Tryz.underlying29 rfl (by kernel_rfl)) rfl ?_
                         exact ⟨by first | rfl | (simp [errW_none,errW_some] <;> rfl) | (simp [*,errW_none,errW_some] <;> rfl),by repeat (first | (with_reducible first | exact HB.out | apply below_alloc | apply pw_below_drewN | apply below_drew1 | refine below_set ?_ GE224.out | refine below_set ?_ GE225.out | refine below_set ?_ GE226.out) | exact HB.out)⟩
                        ·rw [if_neg c209] at H
                         have c209b0 : (a1_0 == 3) = false:=beq_eq_false_iff_ne.mpr c209
                         have c209b1 : (a1_0 != 3) = true:=bne_iff_ne.mpr c209
                         replace H:=Option.bind_eq_some_iff.mp H
                         obtain ⟨⟨t271,t272,t273,t274,t275⟩,A2210,H⟩:=H
                         replace H : (some (t271,t272,t273,t274,t275)) = some (r1,r2,r3,r4,r5):=H
                         have A221:=Aside0.mk A2210
                         clear A2210
                         simp only [Option.some.injEq,Prod.mk.injEq] at H
                         obtain ⟨rfl,rfl,rfl,rfl,rfl⟩:=H
                         have hnb222:=NB224_225.out
                         have hnc222:=NB225_224.out
                         have hnb223:=NB224_226.out
                         have hnc223:=NB226_224.out
                         obtain ⟨hcz224_0,hcz224_1,hcz224_2,hcz224_3,hfz224_0,hfz224_1,hfz224_2,hfz224_3⟩:=blk_all4 BK224.out
                         have hnb225:=NB225_226.out
                         have hnc225:=NB226_225.out
                         obtain ⟨hcz226_0,hcz226_1,hcz226_2,hcz226_3,hfz226_0,hfz226_1,hfz226_2,hfz226_3⟩:=blk_all4 BK225.out
                         go_wp2_with (first | (go_at_call 72;(with_reducible refine (xrCompare.calls a1_0 a1_1 a1_2 a1_3 a2_0 a2_1 a2_2 a2_3 t237 _ A135.out).mono ?_);rintro e w227 ⟨rfl,hb⟩;have n0_:=Aside0.mk (blk_below BK224.out hb);have n1_:=Aside0.mk (blk_below BK225.out hb);have n2_:=Aside0.mk (blk_below BK226.out hb);have n3_:=Aside0.mk (below_step HB.out hb);clear BK224;clear BK225;clear BK226;clear HB;have BK224:=n0_;have BK225:=n1_;have BK226:=n2_;have HB:=n3_;clear n0_ n1_ n2_ n3_;(try clear hb);obtain ⟨hcz228_0,hcz228_1,hcz228_2,hcz228_3,hfz228_0,hfz228_1,hfz228_2,hfz228_3⟩:=blk_all4 BK224.out;obtain ⟨hcz229_0,hcz229_1,hcz229_2,hcz229_3,hfz229_0,hfz229_1,hfz229_2,hfz229_3⟩:=blk_all4 BK225.out) | (go_at_call 75;(with_reducible refine (freshetref01_ints.calls a0 a1_1 a2_1 t271 t272 t273 t274 t275 _ A221.out).mono ?_);rintro e w230 ⟨rfl,hb⟩;have n0_:=Aside0.mk (blk_below BK224.out hb);have n1_:=Aside0.mk (blk_below BK225.out hb);have n2_:=Aside0.mk (blk_below BK226.out hb);have n3_:=Aside0.mk (below_step HB.out hb);clear BK224;clear BK225;clear BK226;clear HB;have BK224:=n0_;have BK225:=n1_;have BK226:=n2_;have HB:=n3_;clear n0_ n1_ n2_ n3_;(try clear hb);obtain ⟨hcz231_0,hcz231_1,hcz231_2,hcz231_3,hfz231_0,hfz231_1,hfz231_2,hfz231_3⟩:=blk_all4 BK226.out))
                         refine bodyPost_ret (results_ct rfl _ _ gb226 29 #[.int .i64 t271,.int .i64 t272,.int .u64 t273,.string t274] (0,0) _ rfl (blk_puts4 BK226.out rfl) Tryz.underlying29 rfl (by kernel_rfl)) rfl ?_
                         exact ⟨by first | rfl | (simp [errW_none,errW_some] <;> rfl) | (simp [*,errW_none,errW_some] <;> rfl),by repeat (first | (with_reducible first | exact HB.out | apply below_alloc | apply pw_below_drewN | apply below_drew1 | refine below_set ?_ GE224.out | refine below_set ?_ GE225.out | refine below_set ?_ GE226.out) | exact HB.out)⟩
end Go.Proofs.YtakcjiinchghaaaGreatDoor.PRZ
end
