/- a part of the claim: what the card leans on, out of the texts PRWx0, PRWx1, PRWx5, PRZx1, PREx0, PRSx0, PRSx1, PRTx0, PEVLx1 (put together by wip/tools/shake.py). -/
import Derived.Test.YtakcjiinchghaaaGreatDoorQE1
import Derived.Test.YtakcjiinchghaaaGreatDoorProg
import Derived.Below
import Derived.Deep.Draws
import Derived.Deep.AppendLies
import Derived.Maps.AppendAt
import Derived.OwnWalk
import Derived.Laws.BytesArg
import Derived.Laws.MakeOwn
import Derived.Laws.OwnMore
import Derived.Deep.OwnRows
import Derived.Tactics
import Derived.Lib.ConvBytes
import Derived.Laws.Slices
import Derived.WalkKit
import Derived.KernelRfl
import Derived.RowKit3
import Derived.Deep.LoopGhost
import Derived.Deep.QuietTactic
import Derived.BigQuiet
import Derived.WideLaws
import Derived.Deep.DeepCutAuto
import Derived.Deep.CutBlock
import Derived.Deep.RegionHeld3
import Derived.Laws.Rows
import Derived.Lib.AppendStr
import Derived.ArgAppend
import Derived.Laws.IdiomCopy
import Derived.OrdersHeld
import Derived.Laws.BitsLemmas
import Derived.RowKit
section
namespace Go.Proofs.YtakcjiinchghaaaGreatDoor.PRW
open Go.RowKit Go.Proofs.YtakcjiinchghaaaGreatDoorW.PrintWords Go.Proofs.YtakcjiinchghaaaGreatDoorW.PrintLast
set_option linter.unusedVariables false
set_option linter.unusedSimpArgs false
def errW : Option Int → Value
 | none=>.nilIface
 | some c=>.iface 0 (.int .i64 c)
theorem errW_none : errW none = .nilIface:=rfl
theorem errW_some (c : Int) : errW (some c) = .iface 0 (.int .i64 c):=rfl
structure S29 where
 f0 : Int
 f1 : Int
 f2 : Int
 f3 : ByteArray
def z29 : S29:=⟨(0 : Int),(0 : Int),(0 : Int),(⟨#[]⟩ : ByteArray)⟩
def k29 : Kd S29:=Kd.iso (Kd.pair (Kd.int .i64) (Kd.pair (Kd.int .i64) (Kd.pair (Kd.int .u64) Kd.string))) (fun x : S29=>(x.f0,x.f1,x.f2,x.f3))
theorem k29_open {w : World} {x : S29} {cs : List Value} (h : k29.K w x cs) : cs = [.int .i64 x.f0,.int .i64 x.f1,.int .u64 x.f2,.string x.f3]:=by
 obtain ⟨_,_,rfl,rfl,⟨_,_,rfl,rfl,⟨_,_,rfl,rfl,rfl⟩⟩⟩:=h
 exact rfl
theorem k29_openM {w : World} {base : Nat} {ok : Nat → Prop} {x : S29} {cs : List Value} (h : k29.M w base ok x cs) : cs = [.int .i64 x.f0,.int .i64 x.f1,.int .u64 x.f2,.string x.f3]:=by
 obtain ⟨_,_,rfl,rfl,⟨_,_,rfl,rfl,⟨_,_,rfl,rfl,rfl⟩⟩⟩:=h
 exact rfl
theorem k29_mk (w : World) (x : S29)  : k29.K w x [.int .i64 x.f0,.int .i64 x.f1,.int .u64 x.f2,.string x.f3]:=⟨[.int .i64 x.f0],[.int .i64 x.f1,.int .u64 x.f2,.string x.f3],rfl,rfl,⟨[.int .i64 x.f1],[.int .u64 x.f2,.string x.f3],rfl,rfl,⟨[.int .u64 x.f2],[.string x.f3],rfl,rfl,rfl⟩⟩⟩
theorem k29_mkM (w : World) (base : Nat) (ok : Nat → Prop) (x : S29)  : k29.M w base ok x [.int .i64 x.f0,.int .i64 x.f1,.int .u64 x.f2,.string x.f3]:=⟨[.int .i64 x.f0],[.int .i64 x.f1,.int .u64 x.f2,.string x.f3],rfl,rfl,⟨[.int .i64 x.f1],[.int .u64 x.f2,.string x.f3],rfl,rfl,⟨[.int .u64 x.f2],[.string x.f3],rfl,rfl,rfl⟩⟩⟩
def rd_T29 (xs : List S29) (i : Int) : S29:=xs.getD i.toNat z29
theorem at_T29 {w : World} {A : Option Addr} {n : Nat} {xs : List S29} (h : Kd.C k29 w A n xs) (i : Int) (h0 : 0 ≤ i) (h1 : i < n) : ∃ ad ,A = some ad ∧ w.cell? (ad.add (i.toNat * 4)) = some (.int .i64 (rd_T29 xs i).f0) ∧ w.cell? ⟨(ad.add (i.toNat * 4)).block,(ad.add (i.toNat * 4)).off + 1,none⟩ = some (.int .i64 (rd_T29 xs i).f1) ∧ w.cell? ⟨(ad.add (i.toNat * 4)).block,(ad.add (i.toNat * 4)).off + 2,none⟩ = some (.int .u64 (rd_T29 xs i).f2) ∧ w.cell? ⟨(ad.add (i.toNat * 4)).block,(ad.add (i.toNat * 4)).off + 3,none⟩ = some (.string (rd_T29 xs i).f3):=by
 obtain ⟨ad,c,e,_,hK,hc0⟩:=Kd.C_get h z29 i h0 h1
 have hc : ∀ j u,c[j]? = some u → w.cell? (ad.add (i.toNat * 4 + j)) = some u:=hc0
 obtain rfl:=k29_open hK
 exact ⟨ad,e,hc 0 _ rfl,by rw [← add_field _ _ 1 (by omega)];exact hc 1 _ rfl,by rw [← add_field _ _ 2 (by omega)];exact hc 2 _ rfl,by rw [← add_field _ _ 3 (by omega)];exact hc 3 _ rfl⟩
structure S41 where
 f0 : Int
 f1 : Int
 f2 : S29
def z41 : S41:=⟨(0 : Int),(0 : Int),z29⟩
def k41 : Kd S41:=Kd.iso (Kd.pair (Kd.int .i64) (Kd.pair (Kd.int .i64) k29)) (fun x : S41=>(x.f0,x.f1,x.f2))
theorem k41_open {w : World} {x : S41} {cs : List Value} (h : k41.K w x cs) : cs = [.int .i64 x.f0,.int .i64 x.f1,.int .i64 x.f2.f0,.int .i64 x.f2.f1,.int .u64 x.f2.f2,.string x.f2.f3]:=by
 obtain ⟨_,_,rfl,rfl,⟨_,_,rfl,rfl,s2⟩⟩:=h
 obtain rfl:=k29_open s2
 exact rfl
theorem k41_openM {w : World} {base : Nat} {ok : Nat → Prop} {x : S41} {cs : List Value} (h : k41.M w base ok x cs) : cs = [.int .i64 x.f0,.int .i64 x.f1,.int .i64 x.f2.f0,.int .i64 x.f2.f1,.int .u64 x.f2.f2,.string x.f2.f3]:=by
 obtain ⟨_,_,rfl,rfl,⟨_,_,rfl,rfl,s2⟩⟩:=h
 obtain rfl:=k29_openM s2
 exact rfl
theorem k41_mk (w : World) (x : S41)  : k41.K w x [.int .i64 x.f0,.int .i64 x.f1,.int .i64 x.f2.f0,.int .i64 x.f2.f1,.int .u64 x.f2.f2,.string x.f2.f3]:=⟨[.int .i64 x.f0],[.int .i64 x.f1,.int .i64 x.f2.f0,.int .i64 x.f2.f1,.int .u64 x.f2.f2,.string x.f2.f3],rfl,rfl,⟨[.int .i64 x.f1],[.int .i64 x.f2.f0,.int .i64 x.f2.f1,.int .u64 x.f2.f2,.string x.f2.f3],rfl,rfl,(k29_mk w x.f2 )⟩⟩
theorem k41_mkM (w : World) (base : Nat) (ok : Nat → Prop) (x : S41)  : k41.M w base ok x [.int .i64 x.f0,.int .i64 x.f1,.int .i64 x.f2.f0,.int .i64 x.f2.f1,.int .u64 x.f2.f2,.string x.f2.f3]:=⟨[.int .i64 x.f0],[.int .i64 x.f1,.int .i64 x.f2.f0,.int .i64 x.f2.f1,.int .u64 x.f2.f2,.string x.f2.f3],rfl,rfl,⟨[.int .i64 x.f1],[.int .i64 x.f2.f0,.int .i64 x.f2.f1,.int .u64 x.f2.f2,.string x.f2.f3],rfl,rfl,(k29_mkM w base ok x.f2 )⟩⟩
def rd_T41 (xs : List S41) (i : Int) : S41:=xs.getD i.toNat z41
theorem at_T41 {w : World} {A : Option Addr} {n : Nat} {xs : List S41} (h : Kd.C k41 w A n xs) (i : Int) (h0 : 0 ≤ i) (h1 : i < n) : ∃ ad ,A = some ad ∧ w.cell? (ad.add (i.toNat * 6)) = some (.int .i64 (rd_T41 xs i).f0) ∧ w.cell? ⟨(ad.add (i.toNat * 6)).block,(ad.add (i.toNat * 6)).off + 1,none⟩ = some (.int .i64 (rd_T41 xs i).f1) ∧ w.cell? ⟨(ad.add (i.toNat * 6)).block,(ad.add (i.toNat * 6)).off + 2,none⟩ = some (.int .i64 (rd_T41 xs i).f2.f0) ∧ w.cell? ⟨(ad.add (i.toNat * 6)).block,(ad.add (i.toNat * 6)).off + 3,none⟩ = some (.int .i64 (rd_T41 xs i).f2.f1) ∧ w.cell? ⟨(ad.add (i.toNat * 6)).block,(ad.add (i.toNat * 6)).off + 4,none⟩ = some (.int .u64 (rd_T41 xs i).f2.f2) ∧ w.cell? ⟨(ad.add (i.toNat * 6)).block,(ad.add (i.toNat * 6)).off + 5,none⟩ = some (.string (rd_T41 xs i).f2.f3):=by
 obtain ⟨ad,c,e,_,hK,hc0⟩:=Kd.C_get h z41 i h0 h1
 have hc : ∀ j u,c[j]? = some u → w.cell? (ad.add (i.toNat * 6 + j)) = some u:=hc0
 obtain rfl:=k41_open hK
 exact ⟨ad,e,hc 0 _ rfl,by rw [← add_field _ _ 1 (by omega)];exact hc 1 _ rfl,by rw [← add_field _ _ 2 (by omega)];exact hc 2 _ rfl,by rw [← add_field _ _ 3 (by omega)];exact hc 3 _ rfl,by rw [← add_field _ _ 4 (by omega)];exact hc 4 _ rfl,by rw [← add_field _ _ 5 (by omega)];exact hc 5 _ rfl⟩
structure S57 where
 f0 : ByteArray
 f1 : Int
 f2 : Bool
def z57 : S57:=⟨(⟨#[]⟩ : ByteArray),(0 : Int),false⟩
def k57 : Kd S57:=Kd.iso (Kd.pair Kd.string (Kd.pair (Kd.int .i64) Kd.bool)) (fun x : S57=>(x.f0,x.f1,x.f2))
theorem k57_open {w : World} {x : S57} {cs : List Value} (h : k57.K w x cs) : cs = [.string x.f0,.int .i64 x.f1,.bool x.f2]:=by
 obtain ⟨_,_,rfl,rfl,⟨_,_,rfl,rfl,rfl⟩⟩:=h
 exact rfl
theorem k57_mk (w : World) (x : S57)  : k57.K w x [.string x.f0,.int .i64 x.f1,.bool x.f2]:=⟨[.string x.f0],[.int .i64 x.f1,.bool x.f2],rfl,rfl,⟨[.int .i64 x.f1],[.bool x.f2],rfl,rfl,rfl⟩⟩
def rd_T57 (xs : List S57) (i : Int) : S57:=xs.getD i.toNat z57
theorem at_T57 {w : World} {A : Option Addr} {n : Nat} {xs : List S57} (h : Kd.C k57 w A n xs) (i : Int) (h0 : 0 ≤ i) (h1 : i < n) : ∃ ad ,A = some ad ∧ w.cell? (ad.add (i.toNat * 3)) = some (.string (rd_T57 xs i).f0) ∧ w.cell? ⟨(ad.add (i.toNat * 3)).block,(ad.add (i.toNat * 3)).off + 1,none⟩ = some (.int .i64 (rd_T57 xs i).f1) ∧ w.cell? ⟨(ad.add (i.toNat * 3)).block,(ad.add (i.toNat * 3)).off + 2,none⟩ = some (.bool (rd_T57 xs i).f2):=by
 obtain ⟨ad,c,e,_,hK,hc0⟩:=Kd.C_get h z57 i h0 h1
 have hc : ∀ j u,c[j]? = some u → w.cell? (ad.add (i.toNat * 3 + j)) = some u:=hc0
 obtain rfl:=k57_open hK
 exact ⟨ad,e,hc 0 _ rfl,by rw [← add_field _ _ 1 (by omega)];exact hc 1 _ rfl,by rw [← add_field _ _ 2 (by omega)];exact hc 2 _ rfl⟩
end Go.Proofs.YtakcjiinchghaaaGreatDoor.PRW
end
section
namespace Go.Proofs.YtakcjiinchghaaaGreatDoor.PRW
open Go.RowKit Go.Proofs.YtakcjiinchghaaaGreatDoorW.PrintWords Go.Proofs.YtakcjiinchghaaaGreatDoorW.PrintLast
set_option linter.unusedVariables false
set_option linter.unusedSimpArgs false
theorem eqA29 (d : Nat) (w : World) (x0 y0 : Int) (x1 y1 : Int) (x2 y2 : Int) (x3 y3 : ByteArray) :
  (Op.equalIn (d + 2) 29 (.agg #[.int .i64 x0,.int .i64 x1,.int .u64 x2,.string x3]) (.agg #[.int .i64 y0,.int .i64 y1,.int .u64 y2,.string y3])).run Tryz.prog w = .ok (x0 == y0 && (x1 == y1 && (x2 == y2 && (x3.toList == y3.toList)))) w:=by
 refine eqA_of Tryz.underlying29 (by kernel_rfl) ?_
 refine eqf_cons (by rfl) (by go_simp;rfl) (by go_simp;rfl) (by go_simp) ?_
 refine eqf_cons (by rfl) (by go_simp;rfl) (by go_simp;rfl) (by go_simp) ?_
 refine eqf_cons (by rfl) (by go_simp;rfl) (by go_simp;rfl) (by go_simp) ?_
 exact eqf_last (by rfl) (by go_simp;rfl) (by go_simp;rfl) (by go_simp)
theorem eqA41 (d : Nat) (w : World) (x0 y0 : Int) (x1 y1 : Int) (x2 y2 : Int) (x3 y3 : Int) (x4 y4 : Int) (x5 y5 : ByteArray) :
  (Op.equalIn (d + 3) 41 (.agg #[.int .i64 x0,.int .i64 x1,.int .i64 x2,.int .i64 x3,.int .u64 x4,.string x5]) (.agg #[.int .i64 y0,.int .i64 y1,.int .i64 y2,.int .i64 y3,.int .u64 y4,.string y5])).run Tryz.prog w = .ok (x0 == y0 && (x1 == y1 && ((x2 == y2 && (x3 == y3 && (x4 == y4 && (x5.toList == y5.toList))))))) w:=by
 refine eqA_of Tryz.underlying41 (by kernel_rfl) ?_
 refine eqf_cons (by rfl) (by go_simp;rfl) (by go_simp;rfl) (by go_simp) ?_
 refine eqf_cons (by rfl) (by go_simp;rfl) (by go_simp;rfl) (by go_simp) ?_
 exact eqf_last (by rfl) (by go_simp) (by go_simp) (eqA29 (d + 0) w _ _ _ _ _ _ _ _)
end Go.Proofs.YtakcjiinchghaaaGreatDoor.PRW
end
section
namespace Go.Proofs.YtakcjiinchghaaaGreatDoor.PRW
open Go.RowKit Go.Proofs.YtakcjiinchghaaaGreatDoorW.PrintWords Go.Proofs.YtakcjiinchghaaaGreatDoorW.PrintLast
set_option linter.unusedVariables false
set_option linter.unusedSimpArgs false
attribute [local go_sem high] eqA41
def freshetlaw05_same.l0 : Nat → List Int → List Int → Int → Option (Bool)
 | 0,_,_,_=>none
 | k + 1,x0,x1,x5=>if x5 < (x0.length : Int) then (if 0 ≤ x5 then (if x5 < (x1.length : Int) then (if (rd x0 x5) = (rd x1 x5) then (freshetlaw05_same.l0 k x0 x1 (wrap64 (x5 + 1))) else (some false)) else (none)) else (none)) else (some true)
def freshetlaw05_same.f (k : Nat) (l0 : List Int) (l1 : List Int) : Option (Bool):=if (l0.length : Int) = (l1.length : Int) then (freshetlaw05_same.l0 k l0 l1 0) else (some false)
theorem freshetlaw05_same.mono_l : ∀ k,(∀ y0 y1 y2,LeO (freshetlaw05_same.l0 k y0 y1 y2) (freshetlaw05_same.l0 (k + 1) y0 y1 y2))
 | 0=>fun _ _ _ r h=>by simp [freshetlaw05_same.l0] at h
 | k + 1=>by
  have ih0:=freshetlaw05_same.mono_l k
  ·intro y0 y1 y2
   unfold freshetlaw05_same.l0
   repeat' first
   | (with_reducible exact ih0 _ _ _)
   | (with_reducible exact LeO.refl _)
   | (with_reducible exact LeO.none _)
   | (with_reducible refine LeO.ite ?_ ?_)
   | (with_reducible refine LeO.bind ?_ (fun _=>?_))
   | exact ih0 _ _ _
   | exact LeO.none _
   | refine LeO.ite ?_ ?_
   | refine LeO.bind ?_ (fun _=>?_)
theorem freshetlaw05_same.mono : ∀ a0 a1 k,LeO (freshetlaw05_same.f k a0 a1) (freshetlaw05_same.f (k + 1) a0 a1):=by
 intro a0 a1 k
 have ih0:=freshetlaw05_same.mono_l k
 unfold freshetlaw05_same.f
 repeat' first
   | (with_reducible exact ih0 _ _ _)
   | (with_reducible exact LeO.refl _)
   | (with_reducible exact LeO.none _)
   | (with_reducible refine LeO.ite ?_ ?_)
   | (with_reducible refine LeO.bind ?_ (fun _=>?_))
   | exact ih0 _ _ _
   | exact LeO.none _
   | refine LeO.ite ?_ ?_
   | refine LeO.bind ?_ (fun _=>?_)
set_option maxHeartbeats 8000000 in
set_option maxRecDepth 100000 in
theorem freshetlaw05_same.calls (k : Nat) (A0 : Option Addr) (c0 : Nat) (l0 : List Int) (A1 : Option Addr) (c1 : Nat) (l1 : List Int) (r : Bool) (w : World) (hr0 : Kd.C (Kd.int .i64) w A0 l0.length l0) (hc0 : l0.length ≤ c0) (hr1 : Kd.C (Kd.int .i64) w A1 l1.length l1) (hc1 : l1.length ≤ c1) (h : freshetlaw05_same.f k l0 l1 = some r) :
  Calls Tryz.prog 22 #[.slice A0 l0.length c0,.slice A1 l1.length c1] w fun e w'=>e = .returned (.bool r) ∧ Drawn0 w w':=by
 have HR0:=Aside0.mk hr0
 have HC0:=Aside0.mk hc0
 clear hr0 hc0
 have HR1:=Aside0.mk hr1
 have HC1:=Aside0.mk hc1
 clear hr1 hc1
 have H : (if (l0.length : Int) = (l1.length : Int) then (freshetlaw05_same.l0 k l0 l1 0) else (some false)) = some r:=h
 clear h
 by_cases c3 : (l0.length : Int) = (l1.length : Int)
 ·rw [if_pos c3] at H
  have c3b0 : ((l0.length : Int) == (l1.length : Int)) = true:=beq_iff_eq.mpr c3
  have c3b1 : ((l0.length : Int) != (l1.length : Int)) = false:=bne_eq_false_iff_eq.mpr c3
  have c3b2 : (l0.length == l1.length) = true:=by first | simpa using c3 | (simp at c3 ⊢;omega)
  clear c3
  have H':=Aside0.mk H
  clear H
  go_enter Tryz.func22,Tryz.ntmps22
  go_wp2
  repeat (go_quiet (fail);try go_wp2)
  go_loopg [5] k (fun kq v5 w'=>∃ (x5_1 : Int),v5 = .int .i64 x5_1 ∧ Aside0 (freshetlaw05_same.l0 kq l0 l1 x5_1 = some r) ∧ Aside0 (kq ≤ k) ∧ Drawn0 w w')
  case atStart=>exact ⟨(0),(by first | rfl | (simp;done) | (simp [*];done)),H',⟨Nat.le_refl _⟩,by repeat (first | exact Drawn0.refl _ | apply Drawn0.step)⟩
  case round =>
   clear H'
   try clear c1
   try clear c2
   try clear p2
   try clear c3
   try clear c3b0
   try clear c3b1
   try clear c3b2
   obtain ⟨x5_1,rfl,HA,HK1,⟨m1,rfl⟩⟩:=hrel
   cases gk with
   | zero=>exact absurd HA.out (by simp [freshetlaw05_same.l0])
   | succ k1 =>
    have H:=HA.out
    clear HA
    simp only [freshetlaw05_same.l0] at H
    by_cases c4 : x5_1 < (l0.length : Int)
    ·rw [if_pos c4] at H
     have c4b0 : decide (x5_1 < (l0.length : Int)) = true:=decide_eq_true c4
     clear c4
     by_cases c5 : 0 ≤ x5_1
     ·rw [if_pos c5] at H
      have c5b0 : decide (0 ≤ x5_1) = true:=decide_eq_true c5
      clear c5
      by_cases c6 : x5_1 < (l1.length : Int)
      ·rw [if_pos c6] at H
       have c6b0 : decide (x5_1 < (l1.length : Int)) = true:=decide_eq_true c6
       clear c6
       by_cases c7 : (rd l0 x5_1) = (rd l1 x5_1)
       ·rw [if_pos c7] at H
        have c7b0 : ((rd l0 x5_1) == (rd l1 x5_1)) = true:=beq_iff_eq.mpr c7
        have c7b1 : ((rd l0 x5_1) != (rd l1 x5_1)) = false:=bne_eq_false_iff_eq.mpr c7
        clear c7
        have H':=Aside0.mk H
        clear H
        have p112 : 0 ≤ (x5_1 : Int):=of_decide_eq_true (by first | (with_reducible assumption) | assumption)
        have q112 : x5_1 < (l0.length : Int):=of_decide_eq_true (by first | (with_reducible assumption) | assumption)
        obtain ⟨ad112,e112,hx112_0⟩:=Kd.at_int HR0.out x5_1 p112 q112
        cases e112
        replace p112:=eq_true p112
        replace q112:=eq_true q112
        have p113 : 0 ≤ (x5_1 : Int):=of_decide_eq_true (by first | (with_reducible assumption) | assumption)
        have q113 : x5_1 < (l1.length : Int):=of_decide_eq_true (by first | (with_reducible assumption) | assumption)
        obtain ⟨ad113,e113,hx113_0⟩:=Kd.at_int HR1.out x5_1 p113 q113
        cases e113
        replace p113:=eq_true p113
        replace q113:=eq_true q113
        go_wp2
        repeat (go_quiet (fail);try go_wp2)
        go_roundg k1
        case measure=>have:=HK1.out;omega
        case rel=>exact ⟨(wrap64 (x5_1 + 1)),(by first | rfl | (simp;done) | (simp [*];done)),H',⟨by have:=HK1.out;omega⟩,by repeat (first | exact Drawn0.refl _ | apply Drawn0.step)⟩
       ·rw [if_neg c7] at H
        have c7b0 : ((rd l0 x5_1) == (rd l1 x5_1)) = false:=beq_eq_false_iff_ne.mpr c7
        have c7b1 : ((rd l0 x5_1) != (rd l1 x5_1)) = true:=bne_iff_ne.mpr c7
        obtain rfl:=Option.some.inj H
        have p112 : 0 ≤ (x5_1 : Int):=of_decide_eq_true (by first | (with_reducible assumption) | assumption)
        have q112 : x5_1 < (l0.length : Int):=of_decide_eq_true (by first | (with_reducible assumption) | assumption)
        obtain ⟨ad112,e112,hx112_0⟩:=Kd.at_int HR0.out x5_1 p112 q112
        cases e112
        replace p112:=eq_true p112
        replace q112:=eq_true q112
        have p113 : 0 ≤ (x5_1 : Int):=of_decide_eq_true (by first | (with_reducible assumption) | assumption)
        have q113 : x5_1 < (l1.length : Int):=of_decide_eq_true (by first | (with_reducible assumption) | assumption)
        obtain ⟨ad113,e113,hx113_0⟩:=Kd.at_int HR1.out x5_1 p113 q113
        cases e113
        replace p113:=eq_true p113
        replace q113:=eq_true q113
        go_wp2
        repeat (go_quiet (fail);try go_wp2)
        go_ret
        exact ⟨by first | rfl | (simp;done) | (simp [*];done),by repeat (first | exact Drawn0.refl _ | apply Drawn0.step)⟩
      ·rw [if_neg c6] at H
       exact absurd H (by simp)
     ·rw [if_neg c5] at H
      exact absurd H (by simp)
    ·rw [if_neg c4] at H
     have c4b0 : decide (x5_1 < (l0.length : Int)) = false:=decide_eq_false c4
     clear c4
     obtain rfl:=Option.some.inj H
     go_wp2
     repeat (go_quiet (fail);try go_wp2)
     go_ret
     exact ⟨by first | rfl | (simp;done) | (simp [*];done),by repeat (first | exact Drawn0.refl _ | apply Drawn0.step)⟩
 ·rw [if_neg c3] at H
  have c3b0 : ((l0.length : Int) == (l1.length : Int)) = false:=beq_eq_false_iff_ne.mpr c3
  have c3b1 : ((l0.length : Int) != (l1.length : Int)) = true:=bne_iff_ne.mpr c3
  have c3b2 : (l0.length == l1.length) = false:=by first | simpa using c3 | (simp at c3 ⊢;omega)
  obtain rfl:=Option.some.inj H
  go_enter Tryz.func22,Tryz.ntmps22
  go_wp2
  repeat (go_quiet (fail);try go_wp2)
  go_ret
  exact ⟨by first | rfl | (simp;done) | (simp [*];done),by repeat (first | exact Drawn0.refl _ | apply Drawn0.step)⟩
end Go.Proofs.YtakcjiinchghaaaGreatDoor.PRW
end
section
namespace Go.Proofs.YtakcjiinchghaaaGreatDoor.PRZ
open Go.RowKit Go.Proofs.YtakcjiinchghaaaGreatDoorW.PrintWords Go.Proofs.YtakcjiinchghaaaGreatDoorW.PrintLast Go.Proofs.YtakcjiinchghaaaGreatDoor.PRW
set_option linter.unusedVariables false
set_option linter.unusedSimpArgs false
theorem eqA29 (d : Nat) (w : World) (x0 y0 : Int) (x1 y1 : Int) (x2 y2 : Int) (x3 y3 : ByteArray) :
  (Op.equalIn (d + 2) 29 (.agg #[.int .i64 x0,.int .i64 x1,.int .u64 x2,.string x3]) (.agg #[.int .i64 y0,.int .i64 y1,.int .u64 y2,.string y3])).run Tryz.prog w = .ok (x0 == y0 && (x1 == y1 && (x2 == y2 && (x3.toList == y3.toList)))) w:=by
 refine eqA_of Tryz.underlying29 (by kernel_rfl) ?_
 refine eqf_cons (by rfl) (by go_simp;rfl) (by go_simp;rfl) (by go_simp) ?_
 refine eqf_cons (by rfl) (by go_simp;rfl) (by go_simp;rfl) (by go_simp) ?_
 refine eqf_cons (by rfl) (by go_simp;rfl) (by go_simp;rfl) (by go_simp) ?_
 exact eqf_last (by rfl) (by go_simp;rfl) (by go_simp;rfl) (by go_simp)
end Go.Proofs.YtakcjiinchghaaaGreatDoor.PRZ
end
section
namespace Go.Proofs.YtakcjiinchghaaaGreatDoor.PRE
open Go.RowKit Go.Proofs.YtakcjiinchghaaaGreatDoorW.PrintWords Go.Proofs.YtakcjiinchghaaaGreatDoorW.PrintLast Go.Proofs.YtakcjiinchghaaaGreatDoor.PRW
set_option linter.unusedVariables false
set_option linter.unusedSimpArgs false
structure S71 where
 f0 : S29
 f1 : Int
def z71 : S71:=⟨z29,(0 : Int)⟩
def k71 : Kd S71:=Kd.iso (Kd.pair k29 (Kd.int .i64)) (fun x : S71=>(x.f0,x.f1))
theorem k71_openM {w : World} {base : Nat} {ok : Nat → Prop} {x : S71} {cs : List Value} (h : k71.M w base ok x cs) : cs = [.int .i64 x.f0.f0,.int .i64 x.f0.f1,.int .u64 x.f0.f2,.string x.f0.f3,.int .i64 x.f1]:=by
 obtain ⟨_,_,rfl,s0,rfl⟩:=h
 obtain rfl:=k29_openM s0
 exact rfl
theorem k71_mkM (w : World) (base : Nat) (ok : Nat → Prop) (x : S71)  : k71.M w base ok x [.int .i64 x.f0.f0,.int .i64 x.f0.f1,.int .u64 x.f0.f2,.string x.f0.f3,.int .i64 x.f1]:=⟨[.int .i64 x.f0.f0,.int .i64 x.f0.f1,.int .u64 x.f0.f2,.string x.f0.f3],[.int .i64 x.f1],rfl,(k29_mkM w base ok x.f0 ),rfl⟩
end Go.Proofs.YtakcjiinchghaaaGreatDoor.PRE
end
section
namespace Go.Proofs.YtakcjiinchghaaaGreatDoor.PRS
open Go.RowKit Go.Proofs.YtakcjiinchghaaaGreatDoorW.PrintWords Go.Proofs.YtakcjiinchghaaaGreatDoorW.PrintLast Go.Proofs.YtakcjiinchghaaaGreatDoor.PRW
set_option linter.unusedVariables false
set_option linter.unusedSimpArgs false
theorem info5 : (Tryz.prog.info? 5).map (fun i=>(i.zero,i.size,i.bytes)) = some (some (.int .u8 0),1,1):=by kernel_rfl
end Go.Proofs.YtakcjiinchghaaaGreatDoor.PRS
end
section
namespace Go.Proofs.YtakcjiinchghaaaGreatDoor.PRS
open Go.RowKit Go.Proofs.YtakcjiinchghaaaGreatDoorW.PrintWords Go.Proofs.YtakcjiinchghaaaGreatDoorW.PrintLast Go.Proofs.YtakcjiinchghaaaGreatDoor.PRW
set_option linter.unusedVariables false
set_option linter.unusedSimpArgs false
mutual
def freshetref01_digits.j0 : Nat → Int → Int → Option (ByteArray)
 | 0,_,_=>none
 | k + 1,x0,x3=>freshetref01_digits.l0 k x0 x3 (([] : List Int))
def freshetref01_digits.l0 : Nat → Int → Int → List Int → Option (ByteArray)
 | 0,_,_,_=>none
 | k + 1,x0,x3,x4=>if x3 ≥ 10 then (if x4.length < 140737488355328 then (freshetref01_digits.l0 k x0 (IntKind.u64.wrap (Int.tdiv x3 10)) (x4 ++ [(IntKind.u64.wrap (48 + (Int.tmod x3 10))) % 256])) else (none)) else (if x4.length < 140737488355328 then ((some (x4 ++ [(IntKind.u64.wrap (48 + x3)) % 256] : List Int)).bind fun y107=>(if x0 < 0 then (if y107.length < 140737488355328 then (freshetref01_digits.j2 k (y107 ++ [45])) else (none)) else (freshetref01_digits.j2 k y107))) else (none))
def freshetref01_digits.j2 : Nat → List Int → Option (ByteArray)
 | 0,_=>none
 | k + 1,x4=>freshetref01_digits.l1 k x4 (⟨#[]⟩ : ByteArray) (wrap64 ((x4.length : Int) - 1))
def freshetref01_digits.l1 : Nat → List Int → ByteArray → Int → Option (ByteArray)
 | 0,_,_,_=>none
 | k + 1,x4,x5,x6=>if x6 ≥ 0 then (if 0 ≤ x6 then (if x6 ≤ (wrap64 (x6 + 1)) then (if (wrap64 (x6 + 1)) ≤ (x4.length : Int) then ((some ((x4.take ((wrap64 (x6 + 1)) : Int).toNat).drop (x6 : Int).toNat : List Int)).bind fun y113=>(if x5.size + (strOfNums y113).size ≤ 9223372036854775807 then (freshetref01_digits.l1 k x4 (x5 ++ (strOfNums y113)) (wrap64 (x6 - 1))) else (none))) else (none)) else (none)) else (none)) else (some x5)
end
def freshetref01_digits.f (k : Nat) (a0 : Int) : Option (ByteArray):=if a0 < 0 then (freshetref01_digits.j0 k a0 (IntKind.u64.wrap (-(IntKind.u64.wrap (a0))))) else (freshetref01_digits.j0 k a0 (IntKind.u64.wrap (a0)))
theorem freshetref01_digits.mono_l : ∀ k,(∀ y0 y1,LeO (freshetref01_digits.j0 k y0 y1) (freshetref01_digits.j0 (k + 1) y0 y1)) ∧ (∀ y0 y1 y2,LeO (freshetref01_digits.l0 k y0 y1 y2) (freshetref01_digits.l0 (k + 1) y0 y1 y2)) ∧ (∀ y0,LeO (freshetref01_digits.j2 k y0) (freshetref01_digits.j2 (k + 1) y0)) ∧ (∀ y0 y1 y2,LeO (freshetref01_digits.l1 k y0 y1 y2) (freshetref01_digits.l1 (k + 1) y0 y1 y2))
 | 0=>⟨fun _ _ r h=>by simp [freshetref01_digits.j0] at h,fun _ _ _ r h=>by simp [freshetref01_digits.l0] at h,fun _ r h=>by simp [freshetref01_digits.j2] at h,fun _ _ _ r h=>by simp [freshetref01_digits.l1] at h⟩
 | k + 1=>by
  obtain ⟨ih0,ih1,ih2,ih3⟩:=freshetref01_digits.mono_l k
  refine ⟨?_, ?_, ?_, ?_⟩
  ·intro y0 y1
   unfold freshetref01_digits.j0
   repeat' first
   | (with_reducible exact ih0 _ _)
   | (with_reducible exact ih1 _ _ _)
   | (with_reducible exact ih2 _)
   | (with_reducible exact ih3 _ _ _)
   | (with_reducible exact LeO.refl _)
   | (with_reducible exact LeO.none _)
   | (with_reducible refine LeO.ite ?_ ?_)
   | (with_reducible refine LeO.bind ?_ (fun _=>?_))
   | exact ih0 _ _
   | exact ih1 _ _ _
   | exact ih2 _
   | exact ih3 _ _ _
   | exact LeO.none _
   | refine LeO.ite ?_ ?_
   | refine LeO.bind ?_ (fun _=>?_)
  ·intro y0 y1 y2
   unfold freshetref01_digits.l0
   repeat' first
   | (with_reducible exact ih0 _ _)
   | (with_reducible exact ih1 _ _ _)
   | (with_reducible exact ih2 _)
   | (with_reducible exact ih3 _ _ _)
   | (with_reducible exact LeO.refl _)
   | (with_reducible exact LeO.none _)
   | (with_reducible refine LeO.ite ?_ ?_)
   | (with_reducible refine LeO.bind ?_ (fun _=>?_))
   | exact ih0 _ _
   | exact ih1 _ _ _
   | exact ih2 _
   | exact ih3 _ _ _
   | exact LeO.none _
   | refine LeO.ite ?_ ?_
   | refine LeO.bind ?_ (fun _=>?_)
  ·intro y0
   unfold freshetref01_digits.j2
   repeat' first
   | (with_reducible exact ih0 _ _)
   | (with_reducible exact ih1 _ _ _)
   | (with_reducible exact ih2 _)
   | (with_reducible exact ih3 _ _ _)
   | (with_reducible exact LeO.refl _)
   | (with_reducible exact LeO.none _)
   | (with_reducible refine LeO.ite ?_ ?_)
   | (with_reducible refine LeO.bind ?_ (fun _=>?_))
   | exact ih0 _ _
   | exact ih1 _ _ _
   | exact ih2 _
   | exact ih3 _ _ _
   | exact LeO.none _
   | refine LeO.ite ?_ ?_
   | refine LeO.bind ?_ (fun _=>?_)
  ·intro y0 y1 y2
   unfold freshetref01_digits.l1
   repeat' first
   | (with_reducible exact ih0 _ _)
   | (with_reducible exact ih1 _ _ _)
   | (with_reducible exact ih2 _)
   | (with_reducible exact ih3 _ _ _)
   | (with_reducible exact LeO.refl _)
   | (with_reducible exact LeO.none _)
   | (with_reducible refine LeO.ite ?_ ?_)
   | (with_reducible refine LeO.bind ?_ (fun _=>?_))
   | exact ih0 _ _
   | exact ih1 _ _ _
   | exact ih2 _
   | exact ih3 _ _ _
   | exact LeO.none _
   | refine LeO.ite ?_ ?_
   | refine LeO.bind ?_ (fun _=>?_)
theorem freshetref01_digits.mono : ∀ a0 k,LeO (freshetref01_digits.f k a0) (freshetref01_digits.f (k + 1) a0):=by
 intro a0 k
 obtain ⟨ih0,ih1,ih2,ih3⟩:=freshetref01_digits.mono_l k
 unfold freshetref01_digits.f
 repeat' first
   | (with_reducible exact ih0 _ _)
   | (with_reducible exact ih1 _ _ _)
   | (with_reducible exact ih2 _)
   | (with_reducible exact ih3 _ _ _)
   | (with_reducible exact LeO.refl _)
   | (with_reducible exact LeO.none _)
   | (with_reducible refine LeO.ite ?_ ?_)
   | (with_reducible refine LeO.bind ?_ (fun _=>?_))
   | exact ih0 _ _
   | exact ih1 _ _ _
   | exact ih2 _
   | exact ih3 _ _ _
   | exact LeO.none _
   | refine LeO.ite ?_ ?_
   | refine LeO.bind ?_ (fun _=>?_)
set_option maxHeartbeats 8000000 in
set_option maxRecDepth 100000 in
theorem freshetref01_digits.calls (k : Nat) (a0 : Int) (r : ByteArray) (w : World) (h : freshetref01_digits.f k a0 = some r) :
  Calls Tryz.prog 92 #[.int .i64 a0] w fun e w'=>e = .returned (.string r) ∧ Below w.heap.size w w':=by
 have HB:=Aside0.mk (Below.refl w.heap.size w)
 have H : (if a0 < 0 then (freshetref01_digits.j0 k a0 (IntKind.u64.wrap (-(IntKind.u64.wrap (a0))))) else (freshetref01_digits.j0 k a0 (IntKind.u64.wrap (a0)))) = some r:=h
 clear h
 have HC2:=Aside0.mk H
 clear H
 go_enter Tryz.func92,Tryz.ntmps92
 go_upto_if 10 with (fail)
 go_cut [3] (fun v3 wc=>∃ (kq : Nat) (x3_1 : Int),v3 = .int .u64 x3_1 ∧ Aside0 (freshetref01_digits.j0 kq a0 x3_1 = some r) ∧ Aside0 (kq ≤ k) ∧ Aside0 (Below w.heap.size w wc))
 case first =>
  have H:=HC2.out
  clear HC2
  by_cases c3 : a0 < 0
  ·rw [if_pos c3] at H
   have c3b0 : decide (a0 < 0) = true:=decide_eq_true c3
   clear c3
   (first | rw [c3b0] | (simp only [i64_w,i32_w];rw [c3b0]) | skip)
   have H':=Aside0.mk H
   clear H
   go_wp2
   go_meet
   case rel=>exact ⟨_,(IntKind.u64.wrap (-(IntKind.u64.wrap (a0)))),(by first | rfl | (simp;done) | (simp [*];done)),H',⟨by first | omega | exact Nat.le_refl _⟩,⟨by repeat (first | (with_reducible first | exact HB.out | apply below_alloc | apply pw_below_drewN | apply below_drew1) | exact HB.out)⟩⟩
  ·rw [if_neg c3] at H
   have c3b0 : decide (a0 < 0) = false:=decide_eq_false c3
   clear c3
   (first | rw [c3b0] | (simp only [i64_w,i32_w];rw [c3b0]) | skip)
   have H':=Aside0.mk H
   clear H
   go_wp2
   go_meet
   case rel=>exact ⟨_,(IntKind.u64.wrap (a0)),(by first | rfl | (simp;done) | (simp [*];done)),H',⟨by first | omega | exact Nat.le_refl _⟩,⟨by repeat (first | (with_reducible first | exact HB.out | apply below_alloc | apply pw_below_drewN | apply below_drew1) | exact HB.out)⟩⟩
 case rest =>
  clear HC2
  try clear p2
  try clear c3
  try clear c3b0
  obtain ⟨kq,x3_1,rfl,HA,HJ1,HB⟩:=hcut
  cases kq with
  | zero=>exact absurd HA.out (by simp [freshetref01_digits.j0])
  | succ kj1 =>
   have H:=HA.out
   clear HA
   simp only [freshetref01_digits.j0] at H
   obtain ⟨y101,hy101⟩ : ∃ y_ : List Int,y_ = (([] : List Int)):=⟨_,rfl⟩
   replace H : (freshetref01_digits.l0 kj1 a0 x3_1 y101) = some r:=by first | (rw [hy101];with_reducible exact H) | (have H2_:=(Option.bind_some _ _).symm.trans H;rw [hy101];with_reducible exact H2_) | (have H2_:=(Option.bind_some _ _).symm.trans H;with_reducible exact H2_) | with_reducible exact H | (rw [hy101];exact H) | exact H
   have Ny101:=Aside0.mk hy101
   clear hy101
   have H':=Aside0.mk H
   clear H
   go_wp2_with (first | ((with_reducible refine gate_dst (N:=13) rfl ?_);refine Kd.R_lit (Kd.int .u8) _ 5 ?hg (N:=13) ?hd (xs:=([] : List Int)) (inner:=[]) (ok:=fun _=>True) (okp:=fun _=>True) ?hr ?hp (fun _ hk=>hk) trivial (Below.refl _ _) (Nat.le_refl _) (by simp) ?_;(case hd=>rfl);(case hg=>rfl);(case hr=>first | (go_simp;done) | (go_simp;rfl));(case hp=>exact (Reps.none _ _));intro v102 w4 ho5 hb hg_ hnew_;clear hg_ hnew_;(first | rw [← Ny101.out] at ho5 | (simp only [Int.reduceToNat] at ho5;rw [← Ny101.out] at ho5));have n0_:=Aside0.mk (Kd.R_lower ho5 (below_size (by repeat (first | (with_reducible first | exact HB.out | apply below_alloc | apply pw_below_drewN | apply below_drew1) | exact HB.out))));have n1_:=Aside0.mk (below_step (by repeat (first | (with_reducible first | exact HB.out | apply below_alloc | apply pw_below_drewN | apply below_drew1) | exact HB.out)) hb);clear HB;have HO103:=n0_;have HB:=n1_;clear n0_ n1_;clear hb ho5))
   go_loopg [3,4] kj1 (fun kq v3 v4 w'=>∃ (x3_2 : Int) (x4_2 : List Int),v3 = .int .u64 x3_2 ∧ Aside0 (freshetref01_digits.l0 kq a0 x3_2 x4_2 = some r) ∧ Aside0 (kq ≤ kj1) ∧ Aside0 (Kd.R (Kd.int .u8) 5 w' w.heap.size (fun _=>True) v4 x4_2) ∧ Aside0 (Below w.heap.size w w'))
   case atStart=>exact ⟨(x3_1),(y101),(by first | rfl | (simp;done) | (simp [*];done)),H',⟨Nat.le_refl _⟩,⟨by (with_reducible repeat (first | apply Kd.R_alloc | apply Kd.R_drewN | apply Kd.R_drew));exact HO103.out⟩,⟨by repeat (first | (with_reducible first | exact HB.out | apply below_alloc | apply pw_below_drewN | apply below_drew1) | exact HB.out)⟩⟩
   case round =>
    clear H'
    try clear p2
    try clear c3
    try clear c3b0
    try clear p2
    obtain ⟨x3_2,x4_2,rfl,HA,HK2,HO_4,HB⟩:=hrel
    cases gk with
    | zero=>exact absurd HA.out (by simp [freshetref01_digits.l0])
    | succ k2 =>
     have H:=HA.out
     clear HA
     simp only [freshetref01_digits.l0] at H
     by_cases c6 : x3_2 ≥ 10
     ·rw [if_pos c6] at H
      have c6b0 : decide (10 ≤ x3_2) = true:=decide_eq_true c6
      clear c6
      by_cases c7 : x4_2.length < 140737488355328
      ·rw [if_pos c7] at H
       have LMc7:=Aside0.mk c7
       clear c7
       obtain ⟨y104,hy104⟩ : ∃ y_ : List Int,y_ = (x4_2 ++ [(IntKind.u64.wrap (48 + (Int.tmod x3_2 10))) % 256]):=⟨_,rfl⟩
       replace H : (freshetref01_digits.l0 k2 a0 (IntKind.u64.wrap (Int.tdiv x3_2 10)) y104) = some r:=by first | (rw [hy104];with_reducible exact H) | (have H2_:=(Option.bind_some _ _).symm.trans H;rw [hy104];with_reducible exact H2_) | (have H2_:=(Option.bind_some _ _).symm.trans H;with_reducible exact H2_) | with_reducible exact H | (rw [hy104];exact H) | exact H
       have Ny104:=Aside0.mk hy104
       clear hy104
       have H':=Aside0.mk H
       clear H
       go_wp2_with (first | ((with_reducible refine gate_builtin (b:=.append) (xs:=#[.tmp 16,.tmp 21]) rfl ?_);at_builtin;refine Kd.R_append (Kd.int .u8) (w0:=w) w.heap.size rfl (.tmp 16) (.tmp 21) 120 5 (.int .u8 0) 1 rfl Tryz.underlying120 info5 rfl (by decide) (by omega) u4 x4_2 ((IntKind.u64.wrap (48 + (Int.tmod x3_2 10))) % 256) [.int .u8 ((IntKind.u64.wrap (48 + (Int.tmod x3_2 10))) % 256)] (fun _=>True) (fun _=>False) rfl rfl ?aP (fun _ hk=>hk.elim) ?aF ?aO ?aB ?aS ?aL ?_;(case aP=>exact rfl);(case aB=>exact (by repeat (first | (with_reducible first | exact HB.out | apply below_alloc | apply pw_below_drewN | apply below_drew1) | exact HB.out)));(case aF=>exact (fun _ _=>trivial));(case aO=>exact (by (with_reducible repeat (first | apply Kd.R_alloc | apply Kd.R_drewN | apply Kd.R_drew));exact HO_4.out));(case aS=>exact (below_size (by repeat (first | (with_reducible first | exact HB.out | apply below_alloc | apply pw_below_drewN | apply below_drew1) | exact HB.out))));(case aL=>have:=LMc7.out;omega);intro v105 w8 ho hb hg hat;rw [← Ny104.out] at ho;have n0_:=Aside0.mk (hb);have n1_:=Aside0.mk (ho);clear HB;clear HO_4;have HB:=n0_;have HO106:=n1_;clear n0_ n1_;clear ho hb hg hat))
       go_roundg k2
       case measure=>have:=HJ1.out;have:=HK2.out;omega
       case rel=>exact ⟨(IntKind.u64.wrap (Int.tdiv x3_2 10)),(y104),(by first | rfl | (simp;done) | (simp [*];done)),H',⟨by have:=HJ1.out;have:=HK2.out;omega⟩,⟨by (with_reducible repeat (first | apply Kd.R_alloc | apply Kd.R_drewN | apply Kd.R_drew));exact HO106.out⟩,⟨by repeat (first | (with_reducible first | exact HB.out | apply below_alloc | apply pw_below_drewN | apply below_drew1) | exact HB.out)⟩⟩
      ·rw [if_neg c7] at H
       exact absurd H (by simp)
     ·rw [if_neg c6] at H
      have c6b0 : decide (10 ≤ x3_2) = false:=decide_eq_false c6
      clear c6
      by_cases c9 : x4_2.length < 140737488355328
      ·rw [if_pos c9] at H
       have LMc9:=Aside0.mk c9
       clear c9
       obtain ⟨y107,hy107⟩ : ∃ y_ : List Int,y_ = (x4_2 ++ [(IntKind.u64.wrap (48 + x3_2)) % 256]):=⟨_,rfl⟩
       replace H : (if a0 < 0 then (if y107.length < 140737488355328 then (freshetref01_digits.j2 k2 (y107 ++ [45])) else (none)) else (freshetref01_digits.j2 k2 y107)) = some r:=by first | (rw [hy107];with_reducible exact H) | (have H2_:=(Option.bind_some _ _).symm.trans H;rw [hy107];with_reducible exact H2_) | (have H2_:=(Option.bind_some _ _).symm.trans H;with_reducible exact H2_) | with_reducible exact H | (rw [hy107];exact H) | exact H
       have Ny107:=Aside0.mk hy107
       clear hy107
       have HC10:=Aside0.mk H
       clear H
       go_upto_if 32 with (first | ((with_reducible refine gate_builtin (b:=.append) (xs:=#[.tmp 25,.tmp 29]) rfl ?_);at_builtin;refine Kd.R_append (Kd.int .u8) (w0:=w) w.heap.size rfl (.tmp 25) (.tmp 29) 120 5 (.int .u8 0) 1 rfl Tryz.underlying120 info5 rfl (by decide) (by omega) u4 x4_2 ((IntKind.u64.wrap (48 + x3_2)) % 256) [.int .u8 ((IntKind.u64.wrap (48 + x3_2)) % 256)] (fun _=>True) (fun _=>False) rfl rfl ?aP (fun _ hk=>hk.elim) ?aF ?aO ?aB ?aS ?aL ?_;(case aP=>exact rfl);(case aB=>exact (by repeat (first | (with_reducible first | exact HB.out | apply below_alloc | apply pw_below_drewN | apply below_drew1) | exact HB.out)));(case aF=>exact (fun _ _=>trivial));(case aO=>exact (by (with_reducible repeat (first | apply Kd.R_alloc | apply Kd.R_drewN | apply Kd.R_drew));exact HO_4.out));(case aS=>exact (below_size (by repeat (first | (with_reducible first | exact HB.out | apply below_alloc | apply pw_below_drewN | apply below_drew1) | exact HB.out))));(case aL=>have:=LMc9.out;omega);intro v108 w11 ho hb hg hat;rw [← Ny107.out] at ho;have n0_:=Aside0.mk (hb);have n1_:=Aside0.mk (ho);clear HB;clear HO_4;have HB:=n0_;have HO109:=n1_;clear n0_ n1_;clear ho hb hg hat))
       (try simp only [Act.put,List.setIfInBounds_toArray,List.set_cons_zero,List.set_cons_succ])
       go_cut [4] (fun v4 wc=>∃ (kq : Nat) (x4_9 : List Int),Aside0 (freshetref01_digits.j2 kq x4_9 = some r) ∧ Aside0 (kq ≤ k2) ∧ Aside0 (Kd.R (Kd.int .u8) 5 wc w.heap.size (fun _=>True) v4 x4_9) ∧ Aside0 (Below w.heap.size w wc))
       case first =>
        have H:=HC10.out
        clear HC10
        by_cases c12 : a0 < 0
        ·rw [if_pos c12] at H
         have c12b0 : decide (a0 < 0) = true:=decide_eq_true c12
         clear c12
         (first | rw [c12b0] | (simp only [i64_w,i32_w];rw [c12b0]) | skip)
         by_cases c13 : y107.length < 140737488355328
         ·rw [if_pos c13] at H
          have LMc13:=Aside0.mk c13
          clear c13
          obtain ⟨y110,hy110⟩ : ∃ y_ : List Int,y_ = (y107 ++ [45]):=⟨_,rfl⟩
          replace H : (freshetref01_digits.j2 k2 y110) = some r:=by first | (rw [hy110];with_reducible exact H) | (have H2_:=(Option.bind_some _ _).symm.trans H;rw [hy110];with_reducible exact H2_) | (have H2_:=(Option.bind_some _ _).symm.trans H;with_reducible exact H2_) | with_reducible exact H | (rw [hy110];exact H) | exact H
          have Ny110:=Aside0.mk hy110
          clear hy110
          have H':=Aside0.mk H
          clear H
          go_wp2_with (first | ((with_reducible refine gate_builtin (b:=.append) (xs:=#[.tmp 33,.tmp 34]) rfl ?_);at_builtin;refine Kd.R_append (Kd.int .u8) (w0:=w) w.heap.size rfl (.tmp 33) (.tmp 34) 120 5 (.int .u8 0) 1 rfl Tryz.underlying120 info5 rfl (by decide) (by omega) v108 y107 45 [.int .u8 45] (fun _=>True) (fun _=>False) rfl rfl ?aP (fun _ hk=>hk.elim) ?aF ?aO ?aB ?aS ?aL ?_;(case aP=>exact rfl);(case aB=>exact (by repeat (first | (with_reducible first | exact HB.out | apply below_alloc | apply pw_below_drewN | apply below_drew1) | exact HB.out)));(case aF=>exact (fun _ _=>trivial));(case aO=>exact (by (with_reducible repeat (first | apply Kd.R_alloc | apply Kd.R_drewN | apply Kd.R_drew));exact HO109.out));(case aS=>exact (below_size (by repeat (first | (with_reducible first | exact HB.out | apply below_alloc | apply pw_below_drewN | apply below_drew1) | exact HB.out))));(case aL=>have:=LMc13.out;omega);intro v111 w14 ho hb hg hat;rw [← Ny110.out] at ho;have n0_:=Aside0.mk (hb);have n1_:=Aside0.mk (ho);clear HB;clear HO109;have HB:=n0_;have HO112:=n1_;clear n0_ n1_;clear ho hb hg hat))
          go_meet
          case rel=>exact ⟨_,(y110),H',⟨by have:=HJ1.out;have:=HK2.out;first | omega | exact Nat.le_refl _⟩,⟨by (with_reducible repeat (first | apply Kd.R_alloc | apply Kd.R_drewN | apply Kd.R_drew));exact HO112.out⟩,⟨by repeat (first | (with_reducible first | exact HB.out | apply below_alloc | apply pw_below_drewN | apply below_drew1) | exact HB.out)⟩⟩
         ·rw [if_neg c13] at H
          exact absurd H (by simp)
        ·rw [if_neg c12] at H
         have c12b0 : decide (a0 < 0) = false:=decide_eq_false c12
         clear c12
         (first | rw [c12b0] | (simp only [i64_w,i32_w];rw [c12b0]) | skip)
         have H':=Aside0.mk H
         clear H
         go_wp2
         go_meet
         case rel=>exact ⟨_,(y107),H',⟨by have:=HJ1.out;have:=HK2.out;first | omega | exact Nat.le_refl _⟩,⟨by (with_reducible repeat (first | apply Kd.R_alloc | apply Kd.R_drewN | apply Kd.R_drew));exact HO109.out⟩,⟨by repeat (first | (with_reducible first | exact HB.out | apply below_alloc | apply pw_below_drewN | apply below_drew1) | exact HB.out)⟩⟩
       case rest =>
        clear HC10
        try clear c1
        try clear p2
        try clear c3
        try clear c3b0
        try clear c6
        try clear c6b0
        try clear c7
        try clear c9
        try clear c12
        try clear c12b0
        try clear c13
        try clear p2
        obtain ⟨kq,x4_9,HA,HJ9,HO_4,HB⟩:=hcut
        cases kq with
        | zero=>exact absurd HA.out (by simp [freshetref01_digits.j2])
        | succ kj9 =>
         have H:=HA.out
         clear HA
         simp only [freshetref01_digits.j2] at H
         have H':=Aside0.mk H
         clear H
         obtain ⟨Ao15,co15,eo15⟩:=Kd.R_slice HO_4.out
         subst eo15
         go_wp2
         go_loopg [5,6] kj9 (fun kq v5 v6 w'=>∃ (x5_4 : ByteArray) (x6_4 : Int),v5 = .string x5_4 ∧ v6 = .int .i64 x6_4 ∧ Aside0 (freshetref01_digits.l1 kq x4_9 x5_4 x6_4 = some r) ∧ Aside0 (kq ≤ kj9) ∧ Aside0 (Kd.R (Kd.int .u8) 5 w' w.heap.size (fun _=>True) (.slice Ao15 x4_9.length co15) x4_9) ∧ Aside0 (Below w.heap.size w w'))
         case atStart=>exact ⟨((⟨#[]⟩ : ByteArray)),(wrap64 ((x4_9.length : Int) - 1)),(by first | rfl | (simp;done) | (simp [*];done)),(by first | rfl | (simp;done) | (simp [*];done)),H',⟨Nat.le_refl _⟩,⟨by (with_reducible repeat (first | apply Kd.R_alloc | apply Kd.R_drewN | apply Kd.R_drew));exact HO_4.out⟩,⟨by repeat (first | (with_reducible first | exact HB.out | apply below_alloc | apply pw_below_drewN | apply below_drew1) | exact HB.out)⟩⟩
         case round =>
          clear H'
          try clear c1
          try clear p2
          try clear c3
          try clear c3b0
          try clear c6
          try clear c6b0
          try clear p6
          try clear c7
          try clear c9
          try clear c12
          try clear c12b0
          try clear c13
          try clear p2
          obtain ⟨x5_4,x6_4,rfl,rfl,HA,HK4,HO_4,HB⟩:=hrel
          cases gk with
          | zero=>exact absurd HA.out (by simp [freshetref01_digits.l1])
          | succ k4 =>
           have H:=HA.out
           clear HA
           simp only [freshetref01_digits.l1] at H
           by_cases c16 : x6_4 ≥ 0
           ·rw [if_pos c16] at H
            have c16b0 : decide (0 ≤ x6_4) = true:=decide_eq_true c16
            clear c16
            by_cases c17 : 0 ≤ x6_4
            ·rw [if_pos c17] at H
             have c17b0:=eq_true c17
             have c17b1 : decide (0 ≤ x6_4) = true:=decide_eq_true c17
             clear c17
             by_cases c18 : x6_4 ≤ (wrap64 (x6_4 + 1))
             ·rw [if_pos c18] at H
              have c18b0:=eq_true c18
              have c18b1 : decide (x6_4 ≤ (wrap64 (x6_4 + 1))) = true:=decide_eq_true c18
              by_cases c19 : (wrap64 (x6_4 + 1)) ≤ (x4_9.length : Int)
              ·rw [if_pos c19] at H
               have c19b0:=eq_true c19
               have c19b1 : decide ((wrap64 (x6_4 + 1)) ≤ (x4_9.length : Int)) = true:=decide_eq_true c19
               obtain ⟨y113,hy113⟩ : ∃ y_ : List Int,y_ = ((x4_9.take ((wrap64 (x6_4 + 1)) : Int).toNat).drop (x6_4 : Int).toNat):=⟨_,rfl⟩
               replace H : (if x5_4.size + (strOfNums y113).size ≤ 9223372036854775807 then (freshetref01_digits.l1 k4 x4_9 (x5_4 ++ (strOfNums y113)) (wrap64 (x6_4 - 1))) else (none)) = some r:=by first | (rw [hy113];with_reducible exact H) | (have H2_:=(Option.bind_some _ _).symm.trans H;rw [hy113];with_reducible exact H2_) | (have H2_:=(Option.bind_some _ _).symm.trans H;with_reducible exact H2_) | with_reducible exact H | (rw [hy113];exact H) | exact H
               have Ny113:=Aside0.mk hy113
               clear hy113
               by_cases c20 : x5_4.size + (strOfNums y113).size ≤ 9223372036854775807
               ·rw [if_pos c20] at H
                have c20b0:=eq_true c20
                have c20b1 : decide (x5_4.size + (strOfNums y113).size ≤ 9223372036854775807) = true:=decide_eq_true c20
                try have c20b2 : (9223372036854775807 < x5_4.size + (strOfNums y113).size) = False:=eq_false (Nat.not_lt.2 c20)
                have H':=Aside0.mk H
                clear H
                have q21 : ((wrap64 (x6_4 + 1)) : Int) ≤ ((x4_9.length : Int) : Int):=of_decide_eq_true (by first | (with_reducible assumption) | assumption)
                obtain ⟨i021,hi021,_,hsz21,_⟩:=info_parts info5
                have hroom21 : x4_9.length ≤ co15:=(Kd.R_reads' HO_4.out).2.1
                have hC21 : Kd.C (Kd.int .u8) _ Ao15 x4_9.length x4_9:=(Kd.R_reads' HO_4.out).2.2
                have ql21 : (x6_4 : Int) ≤ ((wrap64 (x6_4 + 1)) : Int):=of_decide_eq_true (by first | (with_reducible assumption) | assumption)
                have q021 : (0 : Int) ≤ (x6_4 : Int):=of_decide_eq_true (by first | (with_reducible assumption) | assumption)
                have hcut21:=cut_mid (P:=Tryz.prog) 120 5 .i64 .i64 Tryz.underlying120 hi021 1 hsz21 Ao15 x4_9.length co15 x6_4 (wrap64 (x6_4 + 1)) q021 ql21 q21 hroom21
                have hr21:=Kd.C_mid (lo:=(x6_4 : Int).toNat) (hi:=((wrap64 (x6_4 + 1)) : Int).toNat) (c:=co15) hC21 (by omega) (by omega) hroom21
                obtain ⟨A21,hA21⟩ : ∃ A1,A1 = (if co15 = (x6_4 : Int).toNat then Ao15 else (Ao15 : Option Addr).map (·.add ((x6_4 : Int).toNat * 1))):=⟨_,rfl⟩
                obtain ⟨c21,hc21⟩ : ∃ c1,c1 = co15 - (x6_4 : Int).toNat:=⟨_,rfl⟩
                have hy21 : y113.length = ((wrap64 (x6_4 + 1)) : Int).toNat - (x6_4 : Int).toNat:=(by rw [Ny113.out,List.length_drop,List.length_take] <;> omega)
                rw [show ((x4_9).take ((wrap64 (x6_4 + 1)) : Int).toNat).drop (x6_4 : Int).toNat = y113 from Ny113.out.symm] at hr21
                replace hr21 : Kd.C (Kd.int .u8) _ A21 y113.length y113:=(by rw [hA21];exact hr21)
                rw [← hy21,← hA21,← hc21] at hcut21
                have HR116:=Aside0.mk hr21
                have HC116:=Aside0.mk (show y113.length ≤ c21 from by rw [hy21,hc21];exact Nat.sub_le_sub_right (Nat.le_trans (by omega) hroom21) _)
                clear hr21 hC21 hroom21 hi021 hsz21 hc21
                have KY21:=Aside0.mk hy21
                have KA21:=Aside0.mk hA21
                clear hy21 hA21
                have KL21:=Aside0.mk (show ((wrap64 (x6_4 + 1)) : Int).toNat ≤ x4_9.length from by omega)
                have KM21:=Aside0.mk (show (x6_4 : Int).toNat ≤ ((wrap64 (x6_4 + 1)) : Int).toNat from by omega)
                replace q21:=eq_true q21
                have hcv22:=Kd.C_string (P:=Tryz.prog) (A:=A21) (c:=c21) Tryz.underlying120 Tryz.underlying5 Tryz.underlying9 (by repeat (first | (with_reducible exact HR116.out) | (with_reducible refine Kd.C_alloc ?_ _) | (with_reducible refine Kd.C_drewN ?_ _) | (with_reducible refine Kd.C_drew ?_) | exact HR116.out))
                go_wp2
                go_roundg k4
                case measure=>have:=HJ1.out;have:=HK2.out;have:=HJ9.out;have:=HK4.out;omega
                case rel=>exact ⟨(x5_4 ++ (strOfNums y113)),(wrap64 (x6_4 - 1)),(by first | rfl | (simp;done) | (simp [*];done)),(by first | rfl | (simp;done) | (simp [*];done)),H',⟨by have:=HJ1.out;have:=HK2.out;have:=HJ9.out;have:=HK4.out;omega⟩,⟨by (with_reducible repeat (first | apply Kd.R_alloc | apply Kd.R_drewN | apply Kd.R_drew));exact HO_4.out⟩,⟨by repeat (first | (with_reducible first | exact HB.out | apply below_alloc | apply pw_below_drewN | apply below_drew1) | exact HB.out)⟩⟩
               ·rw [if_neg c20] at H
                exact absurd H (by simp)
              ·rw [if_neg c19] at H
               exact absurd H (by simp)
             ·rw [if_neg c18] at H
              exact absurd H (by simp)
            ·rw [if_neg c17] at H
             exact absurd H (by simp)
           ·rw [if_neg c16] at H
            have c16b0 : decide (0 ≤ x6_4) = false:=decide_eq_false c16
            clear c16
            obtain rfl:=Option.some.inj H
            go_wp2
            go_ret
            exact ⟨by first | rfl | (simp [errW_none,errW_some] <;> rfl) | (simp [*,errW_none,errW_some] <;> rfl),by repeat (first | (with_reducible first | exact HB.out | apply below_alloc | apply pw_below_drewN | apply below_drew1) | exact HB.out)⟩
      ·rw [if_neg c9] at H
       exact absurd H (by simp)
end Go.Proofs.YtakcjiinchghaaaGreatDoor.PRS
end
section
namespace Go.Proofs.YtakcjiinchghaaaGreatDoor.PRT
open Go.RowKit Go.Proofs.YtakcjiinchghaaaGreatDoorW.PrintWords Go.Proofs.YtakcjiinchghaaaGreatDoorW.PrintLast Go.Proofs.YtakcjiinchghaaaGreatDoor.PRW
set_option linter.unusedVariables false
set_option linter.unusedSimpArgs false
structure S76 where
 f0 : Int
 f1 : Bool
 f2 : Bool
 f3 : Bool
def z76 : S76:=⟨(0 : Int),false,false,false⟩
end Go.Proofs.YtakcjiinchghaaaGreatDoor.PRT
end
section
namespace Go.Proofs.YtakcjiinchghaaaGreatDoor.PEVL
open Go.RowKit Go.Proofs.YtakcjiinchghaaaGreatDoorW.PrintWords Go.Proofs.YtakcjiinchghaaaGreatDoorW.PrintLast Go.Proofs.YtakcjiinchghaaaGreatDoor.PRW Go.Proofs.YtakcjiinchghaaaGreatDoor.PRT
set_option linter.unusedVariables false
set_option linter.unusedSimpArgs false
theorem eqA29 (d : Nat) (w : World) (x0 y0 : Int) (x1 y1 : Int) (x2 y2 : Int) (x3 y3 : ByteArray) :
  (Op.equalIn (d + 2) 29 (.agg #[.int .i64 x0,.int .i64 x1,.int .u64 x2,.string x3]) (.agg #[.int .i64 y0,.int .i64 y1,.int .u64 y2,.string y3])).run Tryz.prog w = .ok (x0 == y0 && (x1 == y1 && (x2 == y2 && (x3.toList == y3.toList)))) w:=by
 refine eqA_of Tryz.underlying29 (by kernel_rfl) ?_
 refine eqf_cons (by rfl) (by go_simp;rfl) (by go_simp;rfl) (by go_simp) ?_
 refine eqf_cons (by rfl) (by go_simp;rfl) (by go_simp;rfl) (by go_simp) ?_
 refine eqf_cons (by rfl) (by go_simp;rfl) (by go_simp;rfl) (by go_simp) ?_
 exact eqf_last (by rfl) (by go_simp;rfl) (by go_simp;rfl) (by go_simp)
end Go.Proofs.YtakcjiinchghaaaGreatDoor.PEVL
end
