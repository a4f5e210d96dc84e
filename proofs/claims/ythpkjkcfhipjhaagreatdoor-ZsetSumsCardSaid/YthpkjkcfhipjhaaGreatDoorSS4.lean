/- a part of the claim: what the card leans on, out of the texts PRBx0, PRSx0, PRWx0, PRWx1, PZAx0, PZFx1, PZBx0 (put together by wip/tools/shake.py). -/
import Derived.Test.YthpkjkcfhipjhaaGreatDoorSS1
import Derived.Test.YthpkjkcfhipjhaaGreatDoorProg
import Derived.Below
import Derived.Deep.Draws
import Derived.Deep.AppendLies
import Derived.Maps.AppendAt
import Derived.OwnWalk
import Derived.Laws.BytesArg
import Derived.Laws.MakeOwn
import Derived.Laws.OwnMore
import Derived.Deep.OwnRows
import Derived.Tactics
import Derived.Lib.ConvBytes
import Derived.Laws.Slices
import Derived.WalkKit
import Derived.KernelRfl
import Derived.RowKit3
import Derived.Deep.LoopGhost
import Derived.Deep.QuietTactic
import Derived.BigQuiet
import Derived.WideLaws
import Derived.Deep.DeepCutAuto
import Derived.Deep.CutBlock
import Derived.Deep.RegionHeld3
import Derived.Laws.Rows
import Derived.Lib.AppendStr
import Derived.ArgAppend
import Derived.Laws.IdiomCopy
import Derived.OrdersHeld
import Derived.Laws.BitsLemmas
import Derived.RowKit
section
namespace Go.Proofs.YthpkjkcfhipjhaaGreatDoor.PRB
open Go.RowKit Go.Proofs.YthpkjkcfhipjhaaGreatDoorW.PrintWords Go.Proofs.YthpkjkcfhipjhaaGreatDoorW.PrintLast
set_option linter.unusedVariables false
set_option linter.unusedSimpArgs false
def errW : Option Int → Value
 | none=>.nilIface
 | some c=>.iface 0 (.int .i64 c)
theorem errW_none : errW none = .nilIface:=rfl
theorem errW_some (c : Int) : errW (some c) = .iface 0 (.int .i64 c):=rfl
end Go.Proofs.YthpkjkcfhipjhaaGreatDoor.PRB
end
section
namespace Go.Proofs.YthpkjkcfhipjhaaGreatDoor.PRS
open Go.RowKit Go.Proofs.YthpkjkcfhipjhaaGreatDoorW.PrintWords Go.Proofs.YthpkjkcfhipjhaaGreatDoorW.PrintLast
set_option linter.unusedVariables false
set_option linter.unusedSimpArgs false
def errW : Option Int → Value
 | none=>.nilIface
 | some c=>.iface 0 (.int .i64 c)
theorem errW_none : errW none = .nilIface:=rfl
theorem errW_some (c : Int) : errW (some c) = .iface 0 (.int .i64 c):=rfl
end Go.Proofs.YthpkjkcfhipjhaaGreatDoor.PRS
end
section
namespace Go.Proofs.YthpkjkcfhipjhaaGreatDoor.PRW
open Go.RowKit Go.Proofs.YthpkjkcfhipjhaaGreatDoorW.PrintWords Go.Proofs.YthpkjkcfhipjhaaGreatDoorW.PrintLast
set_option linter.unusedVariables false
set_option linter.unusedSimpArgs false
def errW : Option Int → Value
 | none=>.nilIface
 | some c=>.iface 0 (.int .i64 c)
theorem errW_none : errW none = .nilIface:=rfl
theorem errW_some (c : Int) : errW (some c) = .iface 0 (.int .i64 c):=rfl
theorem info9 : (Tryz.prog.info? 9).map (fun i=>(i.zero,i.size,i.bytes)) = some (some (.string ⟨#[]⟩),1,16):=by kernel_rfl
theorem info64 : (Tryz.prog.info? 64).map (fun i=>(i.zero,i.size,i.bytes)) = some (some (.agg #[(.int .i64 0),(.int .i64 0),(.int .u64 0),(.string ⟨#[]⟩)]),4,40):=by kernel_rfl
structure S64 where
 f0 : Int
 f1 : Int
 f2 : Int
 f3 : ByteArray
def z64 : S64:=⟨(0 : Int),(0 : Int),(0 : Int),(⟨#[]⟩ : ByteArray)⟩
def k64 : Kd S64:=Kd.iso (Kd.pair (Kd.int .i64) (Kd.pair (Kd.int .i64) (Kd.pair (Kd.int .u64) Kd.string))) (fun x : S64=>(x.f0,x.f1,x.f2,x.f3))
theorem k64_open {w : World} {x : S64} {cs : List Value} (h : k64.K w x cs) : cs = [.int .i64 x.f0,.int .i64 x.f1,.int .u64 x.f2,.string x.f3]:=by
 obtain ⟨_,_,rfl,rfl,⟨_,_,rfl,rfl,⟨_,_,rfl,rfl,rfl⟩⟩⟩:=h
 exact rfl
theorem k64_mk (w : World) (x : S64)  : k64.K w x [.int .i64 x.f0,.int .i64 x.f1,.int .u64 x.f2,.string x.f3]:=⟨[.int .i64 x.f0],[.int .i64 x.f1,.int .u64 x.f2,.string x.f3],rfl,rfl,⟨[.int .i64 x.f1],[.int .u64 x.f2,.string x.f3],rfl,rfl,⟨[.int .u64 x.f2],[.string x.f3],rfl,rfl,rfl⟩⟩⟩
theorem k64_mkM (w : World) (base : Nat) (ok : Nat → Prop) (x : S64)  : k64.M w base ok x [.int .i64 x.f0,.int .i64 x.f1,.int .u64 x.f2,.string x.f3]:=⟨[.int .i64 x.f0],[.int .i64 x.f1,.int .u64 x.f2,.string x.f3],rfl,rfl,⟨[.int .i64 x.f1],[.int .u64 x.f2,.string x.f3],rfl,rfl,⟨[.int .u64 x.f2],[.string x.f3],rfl,rfl,rfl⟩⟩⟩
def rd_T64 (xs : List S64) (i : Int) : S64:=xs.getD i.toNat z64
theorem at_T64 {w : World} {A : Option Addr} {n : Nat} {xs : List S64} (h : Kd.C k64 w A n xs) (i : Int) (h0 : 0 ≤ i) (h1 : i < n) : ∃ ad ,A = some ad ∧ w.cell? (ad.add (i.toNat * 4)) = some (.int .i64 (rd_T64 xs i).f0) ∧ w.cell? ⟨(ad.add (i.toNat * 4)).block,(ad.add (i.toNat * 4)).off + 1,none⟩ = some (.int .i64 (rd_T64 xs i).f1) ∧ w.cell? ⟨(ad.add (i.toNat * 4)).block,(ad.add (i.toNat * 4)).off + 2,none⟩ = some (.int .u64 (rd_T64 xs i).f2) ∧ w.cell? ⟨(ad.add (i.toNat * 4)).block,(ad.add (i.toNat * 4)).off + 3,none⟩ = some (.string (rd_T64 xs i).f3):=by
 obtain ⟨ad,c,e,_,hK,hc0⟩:=Kd.C_get h z64 i h0 h1
 have hc : ∀ j u,c[j]? = some u → w.cell? (ad.add (i.toNat * 4 + j)) = some u:=hc0
 obtain rfl:=k64_open hK
 exact ⟨ad,e,hc 0 _ rfl,by rw [← add_field _ _ 1 (by omega)];exact hc 1 _ rfl,by rw [← add_field _ _ 2 (by omega)];exact hc 2 _ rfl,by rw [← add_field _ _ 3 (by omega)];exact hc 3 _ rfl⟩
end Go.Proofs.YthpkjkcfhipjhaaGreatDoor.PRW
end
section
namespace Go.Proofs.YthpkjkcfhipjhaaGreatDoor.PRW
open Go.RowKit Go.Proofs.YthpkjkcfhipjhaaGreatDoorW.PrintWords Go.Proofs.YthpkjkcfhipjhaaGreatDoorW.PrintLast
set_option linter.unusedVariables false
set_option linter.unusedSimpArgs false
theorem eqA64 (d : Nat) (w : World) (x0 y0 : Int) (x1 y1 : Int) (x2 y2 : Int) (x3 y3 : ByteArray) :
  (Op.equalIn (d + 2) 64 (.agg #[.int .i64 x0,.int .i64 x1,.int .u64 x2,.string x3]) (.agg #[.int .i64 y0,.int .i64 y1,.int .u64 y2,.string y3])).run Tryz.prog w = .ok (x0 == y0 && (x1 == y1 && (x2 == y2 && (x3.toList == y3.toList)))) w:=by
 refine eqA_of Tryz.underlying64 (by kernel_rfl) ?_
 refine eqf_cons (by rfl) (by go_simp;rfl) (by go_simp;rfl) (by go_simp) ?_
 refine eqf_cons (by rfl) (by go_simp;rfl) (by go_simp;rfl) (by go_simp) ?_
 refine eqf_cons (by rfl) (by go_simp;rfl) (by go_simp;rfl) (by go_simp) ?_
 exact eqf_last (by rfl) (by go_simp;rfl) (by go_simp;rfl) (by go_simp)
end Go.Proofs.YthpkjkcfhipjhaaGreatDoor.PRW
end
section
namespace Go.Proofs.YthpkjkcfhipjhaaGreatDoor.PZA
open Go.RowKit Go.Proofs.YthpkjkcfhipjhaaGreatDoorW.PrintWords Go.Proofs.YthpkjkcfhipjhaaGreatDoorW.PrintLast Go.Proofs.YthpkjkcfhipjhaaGreatDoor.PRW
set_option linter.unusedVariables false
set_option linter.unusedSimpArgs false
structure S48 where
 f0 : (List S64)
 f1 : Int
def z48 : S48:=⟨([] : List S64),(0 : Int)⟩
def k48 : Kd S48:=Kd.iso (Kd.pair (Kd.slice 64 k64) (Kd.int .i64)) (fun x : S48=>(x.f0,x.f1))
theorem k48_open {w : World} {x : S48} {cs : List Value} (h : k48.K w x cs) : ∃ A0 c0,cs = [.slice A0 x.f0.length c0,.int .i64 x.f1] ∧ x.f0.length ≤ c0 ∧ k64.C w A0 x.f0.length x.f0:=by
 obtain ⟨_,_,rfl,⟨A0,c0,rfl,l0,g0⟩,rfl⟩:=h
 exact ⟨A0,c0,rfl,l0,g0⟩
theorem k48_mk (w : World) (x : S48) {A0 : Option Addr} {c0 : Nat} (l0 : x.f0.length ≤ c0) (g0 : k64.C w A0 x.f0.length x.f0) : k48.K w x [.slice A0 x.f0.length c0,.int .i64 x.f1]:=⟨[.slice A0 x.f0.length c0],[.int .i64 x.f1],rfl,⟨A0,c0,rfl,l0,g0⟩,rfl⟩
theorem k48_mkM (w : World) (base : Nat) (ok : Nat → Prop) (x : S48) {v0 : Value} (g0 : k64.R 64 w base ok v0 x.f0) : k48.M w base ok x [v0,.int .i64 x.f1]:=⟨[v0],[.int .i64 x.f1],rfl,⟨v0,rfl,g0⟩,rfl⟩
def rd_T48 (xs : List S48) (i : Int) : S48:=xs.getD i.toNat z48
theorem at_T48 {w : World} {A : Option Addr} {n : Nat} {xs : List S48} (h : Kd.C k48 w A n xs) (i : Int) (h0 : 0 ≤ i) (h1 : i < n) : ∃ ad A0 c0,A = some ad ∧ w.cell? (ad.add (i.toNat * 2)) = some (.slice A0 (rd_T48 xs i).f0.length c0) ∧ w.cell? ⟨(ad.add (i.toNat * 2)).block,(ad.add (i.toNat * 2)).off + 1,none⟩ = some (.int .i64 (rd_T48 xs i).f1) ∧ (rd_T48 xs i).f0.length ≤ c0 ∧ k64.C w A0 (rd_T48 xs i).f0.length (rd_T48 xs i).f0:=by
 obtain ⟨ad,c,e,_,hK,hc0⟩:=Kd.C_get h z48 i h0 h1
 have hc : ∀ j u,c[j]? = some u → w.cell? (ad.add (i.toNat * 2 + j)) = some u:=hc0
 obtain ⟨A0,c0,rfl,l0,g0⟩:=k48_open hK
 exact ⟨ad,A0,c0,e,hc 0 _ rfl,by rw [← add_field _ _ 1 (by omega)];exact hc 1 _ rfl,l0,g0⟩
end Go.Proofs.YthpkjkcfhipjhaaGreatDoor.PZA
end
section
namespace Go.Proofs.YthpkjkcfhipjhaaGreatDoor.PZF
open Go.RowKit Go.Proofs.YthpkjkcfhipjhaaGreatDoorW.PrintWords Go.Proofs.YthpkjkcfhipjhaaGreatDoorW.PrintLast Go.Proofs.YthpkjkcfhipjhaaGreatDoor.PRW Go.Proofs.YthpkjkcfhipjhaaGreatDoor.PZA
set_option linter.unusedVariables false
set_option linter.unusedSimpArgs false
def freshetref03_fair.f (a0 : Int) : Option (Bool):=if a0 ≥ (-4611686018427387904) then (some (decide (a0 ≤ 4611686018427387904))) else (some false)
set_option maxHeartbeats 8000000 in
set_option maxRecDepth 100000 in
theorem freshetref03_fair.calls (a0 : Int) (r : Bool) (w : World) (h : freshetref03_fair.f a0 = some r) :
  Calls Tryz.prog 46 #[.int .i64 a0] w fun e w'=>e = .returned (.bool r) ∧ Drawn0 w w':=by
 have H : (if a0 ≥ (-4611686018427387904) then (some (decide (a0 ≤ 4611686018427387904))) else (some false)) = some r:=h
 clear h
 by_cases c2 : a0 ≥ (-4611686018427387904)
 ·rw [if_pos c2] at H
  have c2b0 : decide ((-4611686018427387904) ≤ a0) = true:=decide_eq_true c2
  clear c2
  obtain rfl:=Option.some.inj H
  go_enter Tryz.func46,Tryz.ntmps46
  go_wp2
  go_ret
  exact ⟨by first | rfl | (simp;done) | (simp [*];done),by repeat (first | exact Drawn0.refl _ | apply Drawn0.step)⟩
 ·rw [if_neg c2] at H
  have c2b0 : decide ((-4611686018427387904) ≤ a0) = false:=decide_eq_false c2
  clear c2
  obtain rfl:=Option.some.inj H
  go_enter Tryz.func46,Tryz.ntmps46
  go_wp2
  go_ret
  exact ⟨by first | rfl | (simp;done) | (simp [*];done),by repeat (first | exact Drawn0.refl _ | apply Drawn0.step)⟩
def freshetref03_copied.f (l0 : List (S64)) : Option ((List (S64))):=(some (([] : List (S64)) : List (S64))).bind fun y101=>(if y101.length + l0.length < 3518437208883 then (some (y101 ++ l0)) else (none))
set_option maxHeartbeats 8000000 in
set_option maxRecDepth 100000 in
theorem freshetref03_copied.calls (A0 : Option Addr) (c0 : Nat) (l0 : List (S64)) (r : List (S64)) (w : World) (hr0 : Kd.C k64 w A0 l0.length l0) (hc0 : l0.length ≤ c0) (h : freshetref03_copied.f l0 = some r) :
  Calls Tryz.prog 49 #[.slice A0 l0.length c0] w fun e w'=>∃ v0_ : Value,e = .returned (v0_) ∧ Kd.R k64 64 w' w.heap.size (fun _=>True) v0_ r ∧ Below w.heap.size w w':=by
 have HR0:=Aside0.mk hr0
 have HC0:=Aside0.mk hc0
 clear hr0 hc0
 have HB:=Aside0.mk (Below.refl w.heap.size w)
 have H : ((some (([] : List (S64)) : List (S64))).bind fun y101=>(if y101.length + l0.length < 3518437208883 then (some (y101 ++ l0)) else (none))) = some r:=h
 clear h
 obtain ⟨y101,hy101⟩ : ∃ y_ : List (S64),y_ = (([] : List (S64))):=⟨_,rfl⟩
 replace H : (if y101.length + l0.length < 3518437208883 then (some (y101 ++ l0)) else (none)) = some r:=by first | (rw [hy101];with_reducible exact H) | (have H2_:=(Option.bind_some _ _).symm.trans H;rw [hy101];with_reducible exact H2_) | (have H2_:=(Option.bind_some _ _).symm.trans H;with_reducible exact H2_) | with_reducible exact H | (rw [hy101];exact H) | exact H
 have Ny101:=Aside0.mk hy101
 clear hy101
 by_cases c2 : y101.length + l0.length < 3518437208883
 ·rw [if_pos c2] at H
  have LMc2:=Aside0.mk c2
  clear c2
  obtain ⟨y104,hy104⟩ : ∃ y_ : List (S64),y_ = (y101 ++ l0):=⟨_,rfl⟩
  replace H : (some y104) = some r:=by first | (rw [hy104];with_reducible exact H) | (have H2_:=(Option.bind_some _ _).symm.trans H;rw [hy104];with_reducible exact H2_) | (have H2_:=(Option.bind_some _ _).symm.trans H;with_reducible exact H2_) | with_reducible exact H | (rw [hy104];exact H) | exact H
  have Ny104:=Aside0.mk hy104
  clear hy104
  obtain rfl:=Option.some.inj H
  go_enter Tryz.func49,Tryz.ntmps49
  go_wp2_with (first | ((with_reducible refine gate_dst (N:=4) rfl ?_);refine Kd.R_lit k64 _ 64 ?hg (N:=4) ?hd (xs:=([] : List (S64))) (inner:=[]) (ok:=fun _=>True) (okp:=fun _=>True) ?hr ?hp (fun _ hk=>hk) trivial (Below.refl _ _) (Nat.le_refl _) (by simp) ?_;(case hd=>rfl);(case hg=>rfl);(case hr=>first | (go_simp;done) | (go_simp;rfl));(case hp=>exact (Reps.none _ _));intro v102 w3 ho4 hb hg_ hnew_;clear hg_ hnew_;(first | rw [← Ny101.out] at ho4 | (simp only [Int.reduceToNat] at ho4;rw [← Ny101.out] at ho4));have n0_:=Aside0.mk (Kd.R_lower ho4 (below_size (by repeat (first | (with_reducible first | exact HB.out | apply below_alloc | apply pw_below_drewN | apply below_drew1) | exact HB.out))));have n1_:=Aside0.mk (below_step (by repeat (first | (with_reducible first | exact HB.out | apply below_alloc | apply pw_below_drewN | apply below_drew1) | exact HB.out)) hb);clear HB;have HO103:=n0_;have HB:=n1_;clear n0_ n1_;clear hb ho4) | ((with_reducible refine gate_builtin (b:=.append) (xs:=#[.tmp 5,.tmp 6]) rfl ?_);at_builtin;refine Kd.R_append_rows k64 (w0:=w) w.heap.size rfl (.tmp 5) (.tmp 6) 24 64 (.agg #[(.int .i64 0),(.int .i64 0),(.int .u64 0),(.string ⟨#[]⟩)]) 40 rfl Tryz.underlying24 info64 rfl (by decide) (by omega) v102 y101 l0 _ _ _ (fun _=>True) (fun _=>False) rfl rfl ?aO ?aR (fun _ _ h=>h) (fun _ h=>h.elim) ?aF ?aB ?aS ?aL ?_;(case aR=>repeat (first | exact (Kd.C_below HR0.out HB.out) | (with_reducible refine Kd.C_alloc ?_ _) | (with_reducible refine Kd.C_drewN ?_ _) | (with_reducible refine Kd.C_drew ?_)));(case aB=>exact (by repeat (first | (with_reducible first | exact HB.out | apply below_alloc | apply pw_below_drewN | apply below_drew1) | exact HB.out)));(case aF=>exact (fun _ _=>trivial));(case aO=>exact (by (with_reducible repeat (first | apply Kd.R_alloc | apply Kd.R_drewN | apply Kd.R_drew));exact HO103.out));(case aS=>exact (below_size (by repeat (first | (with_reducible first | exact HB.out | apply below_alloc | apply pw_below_drewN | apply below_drew1) | exact HB.out))));(case aL=>have:=LMc2.out;omega);intro v105 w5 ho hb hg hat;rw [← Ny104.out] at ho;have n0_:=Aside0.mk (hb);have n1_:=Aside0.mk (ho);clear HB;clear HO103;have HB:=n0_;have HO106:=n1_;clear n0_ n1_;clear ho hb hg hat))
  go_ret
  exact ⟨_,by first | rfl | (simp [errW_none,errW_some] <;> rfl) | (simp [*,errW_none,errW_some] <;> rfl),by (with_reducible repeat (first | apply Kd.R_alloc | apply Kd.R_drewN | apply Kd.R_drew));exact HO106.out,by repeat (first | (with_reducible first | exact HB.out | apply below_alloc | apply pw_below_drewN | apply below_drew1) | exact HB.out)⟩
 ·rw [if_neg c2] at H
  exact absurd H (by simp)
end Go.Proofs.YthpkjkcfhipjhaaGreatDoor.PZF
end
section
namespace Go.Proofs.YthpkjkcfhipjhaaGreatDoor.PZB
open Go.RowKit Go.Proofs.YthpkjkcfhipjhaaGreatDoorW.PrintWords Go.Proofs.YthpkjkcfhipjhaaGreatDoorW.PrintLast Go.Proofs.YthpkjkcfhipjhaaGreatDoor.PRW Go.Proofs.YthpkjkcfhipjhaaGreatDoor.PZA Go.Proofs.YthpkjkcfhipjhaaGreatDoor.PZF
set_option linter.unusedVariables false
set_option linter.unusedSimpArgs false
theorem info48 : (Tryz.prog.info? 48).map (fun i=>(i.zero,i.size,i.bytes)) = some (some (.agg #[(.slice none 0 0),(.int .i64 0)]),2,32):=by kernel_rfl
end Go.Proofs.YthpkjkcfhipjhaaGreatDoor.PZB
end
