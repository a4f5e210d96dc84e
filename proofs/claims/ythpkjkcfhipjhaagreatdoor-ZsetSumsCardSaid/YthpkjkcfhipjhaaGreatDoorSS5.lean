/- a part of the claim: what the card leans on, out of the texts R2, R3, R4, R6, R7, R8, R9b, R10, XR (put together by wip/tools/shake.py). -/
import Derived.Test.YthpkjkcfhipjhaaGreatDoorSS2
import Derived.Test.YthpkjkcfhipjhaaGreatDoorSS3
import Derived.Test.YthpkjkcfhipjhaaGreatDoorSS4
import Derived.Shelf.Abstract
import Derived.Laws.BitsAllLaws
import Derived.RegionTactic
import Derived.BigRegion
import Derived.Deep.RegionLaw
import Derived.Deep.AppendLies
import Derived.Deep.RegionHeld3
import Derived.Lib.ConvBytes
import Derived.Lib.Replace
import Derived.Lib.CountLaws
import Derived.Lib.IndexBytes
section
namespace Go.Proofs.YthpkjkcfhipjhaaGreatDoor
set_option linter.unusedVariables false
set_option linter.unusedSimpArgs false
open Go.RowKit Go.Proofs.YthpkjkcfhipjhaaGreatDoorW.PrintWords Go.Proofs.YthpkjkcfhipjhaaGreatDoorW.PrintLast PRW
theorem hidF {p : Prop} (h : p) : Hid p:=h
/-- function g tells p of a value -/
def ValPred (g : Nat) (p : S64 → Bool) : Prop:=∀ (x : S64) (W : World),I64 x.f1 → Calls Tryz.prog g #[.agg #[.int .i64 x.f0,.int .i64 x.f1,.int .u64 x.f2,.string x.f3]] W fun e w'=>e = .returned (.bool (p x)) ∧ Below W.heap.size W w'
/-- the first place where p holds; -1: nowhere -/
def idxP {α : Type} (p : α → Bool) : List α → Int → Int
 | [],_=>-1
 | x :: t,i=>if p x then i else idxP p t (i + 1)
def natOf : Value → Nat
 | .int _ n=>n.toNat
 | _=>0
theorem drop_rd (L : List S64) (c : Int) (h0 : 0 ≤ c) (h : c < L.length) : L.drop c.toNat = rd_T64 L c :: L.drop (c + 1).toNat:=by
 have h' : c.toNat < L.length:=by omega
 rw [List.drop_eq_getElem_cons h',show (c + 1).toNat = c.toNat + 1 by omega]
 unfold rd_T64
 simp [h']
theorem rd_mem (L : List S64) (c : Int) (h0 : 0 ≤ c) (h : c < L.length) : rd_T64 L c ∈ L:=by
 have h' : c.toNat < L.length:=by omega
 unfold rd_T64
 simp [h']
set_option maxRecDepth 100000 in
set_option maxHeartbeats 1000000 in
theorem indexFunc_c (g : Nat) (eg : ∀ args w,(callFunc g args).run Tryz.prog w = .ok (.enter g args) w) (p : S64 → Bool) (hp : ValPred g p) (A0 : Option Addr) (c0 : Nat) (l : List S64) (w : World)
  (hr : Kd.C k64 w A0 l.length l) (hI : ∀ x ∈ l,I64 x.f1) :
  Calls Tryz.prog 87 #[.slice A0 l.length c0,.func (.func g) #[] #[]] w fun e w'=>e = .returned (.int .i64 (idxP p l 0)) ∧ Below w.heap.size w w':=by
 have HR:=hidF hr
 have HI:=hidF hI
 have hl : l.length ≤ 9223372036854775807:=hr.2.1
 clear hr hI
 have hu:=Tryz.underlying64
 go_enter Tryz.func87,Tryz.ntmps87
 go_wp2
 go_loopw [8] (fun v wr=>∃ c : Int,v = Value.int .i64 c ∧ 0 ≤ c ∧ c ≤ l.length ∧ Below w.heap.size w wr ∧ Hid (idxP p l 0 = idxP p (l.drop c.toNat) c)) (fun v _=>l.length - natOf v)
 case atStart=>exact ⟨0,rfl,by omega,by omega,Below.refl _ _,hidF (by simp)⟩
 case round =>
  obtain ⟨c,rfl,hc0,hcl,HB,hE⟩:=hrel
  by_cases hlt : c < l.length
  ·have hx:=HI.out _ (rd_mem l c hc0 hlt)
   have cS:=hp (rd_T64 l c) wr hx
   have hD:=hidF (drop_rd l c hc0 hlt)
   obtain ⟨ad,e,h0,h1,h2,h3⟩:=at_T64 HR.out c hc0 hlt
   cases e
   replace h0:=(HB.cell (World.block_lt_of_cell? w _ h0)).trans h0
   replace h1:=(HB.cell (World.block_lt_of_cell? w _ h1)).trans h1
   replace h2:=(HB.cell (World.block_lt_of_cell? w _ h2)).trans h2
   replace h3:=(HB.cell (World.block_lt_of_cell? w _ h3)).trans h3
   cases hpc : p (rd_T64 l c)
   ·have hE2 : Hid (idxP p l 0 = idxP p (l.drop (c + 1).toNat) (c + 1)):=hidF (by rw [hE.out,hD.out,idxP,hpc];rfl)
    rw [hpc] at cS
    have CS:=hidF cS
    clear cS hpc hE hx
    go_wp2_with (go_at_fn g;refine CS.out.mono ?_;rintro e W' ⟨rfl,hb⟩)
    go_roundw
    case rel=>exact ⟨c + 1,rfl,by omega,by omega,HB.trans (hb.mono HB.size),hE2⟩
    case measure=>simp [natOf];omega
   ·have hE2 : Hid (idxP p l 0 = c):=hidF (by rw [hE.out,hD.out,idxP,hpc];rfl)
    rw [hpc] at cS
    have CS:=hidF cS
    clear cS hpc hE hx
    go_wp2_with (go_at_fn g;refine CS.out.mono ?_;rintro e W' ⟨rfl,hb⟩)
    go_ret
    exact ⟨by rw [hE2.out] <;> rfl,HB.trans (hb.mono HB.size)⟩
  ·have hce : c = l.length:=by omega
   have hE2 : Hid (idxP p l 0 = -1):=hidF (by rw [hE.out,hce,List.drop_of_length_le (by omega)];rfl)
   clear hce
   go_wp2
   go_ret
   exact ⟨by rw [hE2.out] <;> rfl,HB⟩
theorem idxP_any {α : Type} (p : α → Bool) : ∀ (l : List α) (i : Int),0 ≤ i → decide (idxP p l i ≥ 0) = l.any p
 | [],i,_=>rfl
 | x :: t,i,h=>by
  rw [idxP,List.any_cons]
  cases hp : p x
  ·simp only [Bool.false_or,Bool.false_eq_true,if_false];exact idxP_any p t (i + 1) (by omega)
  ·simp only [if_true,Bool.true_or];simpa using h
set_option maxRecDepth 100000 in
theorem containsFunc_c (g : Nat) (eg : ∀ args w,(callFunc g args).run Tryz.prog w = .ok (.enter g args) w) (p : S64 → Bool) (hp : ValPred g p) (A0 : Option Addr) (c0 : Nat) (l : List S64) (w : World)
  (hr : Kd.C k64 w A0 l.length l) (hI : ∀ x ∈ l,I64 x.f1) :
  Calls Tryz.prog 65 #[.slice A0 l.length c0,.func (.func g) #[] #[]] w fun e w'=>e = .returned (.bool (l.any p)) ∧ Below w.heap.size w w':=by
 have HH:=hidF (indexFunc_c g eg p hp A0 c0 l w hr hI)
 have hA:=idxP_any p l 0 (by omega)
 clear hr hI
 have HA:=hidF hA
 clear hA
 go_enter Tryz.func65,Tryz.ntmps65
 go_wp2_with (go_at_call 87;refine HH.out.mono ?_;rintro e w' ⟨rfl,hb⟩)
 go_ret
 exact ⟨by rw [← HA.out] <;> rfl,hb⟩
theorem sound1_c : ValPred 66 (fun x=>!soundV x.f0 x.f1 x.f2 x.f3):=by
 intro x w hn
 have HH : ∀ W,Calls Tryz.prog 67 #[.agg #[.int .i64 x.f0,.int .i64 x.f1,.int .u64 x.f2,.string x.f3]] W fun e w'=>e = .returned (.bool (soundV x.f0 x.f1 x.f2 x.f3)) ∧ Below W.heap.size W w':=fun W=>sound_c _ _ _ _ W hn
 go_enter Tryz.func66,Tryz.ntmps66
 go_wp2_with (first | (go_at_call 67;(fail_if_success (have:=w1));((with_reducible refine (HH _).mono ?_);rintro e w1 ⟨rfl,hb1⟩;(try (replace hb1:=below_undrew hb1));(try (replace hb1:=below_undrewN hb1));obtain ⟨hc1,hf1⟩:=bcell hb1;)))
 go_ret
 exact ⟨rfl,(by repeat (first | (with_reducible exact Below.refl _ _) | (with_reducible refine below_al ?_ _) | (with_reducible refine below_drewN ?_ _) | (with_reducible refine Below.drew ?_) | (with_reducible refine below_via (by assumption) ?_) | (with_reducible refine below_sc ?_ ?_ _;· (first | (simp;done) | (simp;omega) | omega))))⟩
theorem enter_sound1 : ∀ args w,(callFunc 66 args).run Tryz.prog w = .ok (.enter 66 args) w:=by
 intro args w
 simp [go_sem,Tryz.func66]
/-- whether these are a row -/
def soundL (l : List S64) : Bool:=decide (l.length ≤ 1024) && l.all fun x=>soundV x.f0 x.f1 x.f2 x.f3
set_option maxRecDepth 100000 in
theorem rowSound_c (A0 : Option Addr) (c0 : Nat) (l : List S64) (w : World) (hr : Kd.C k64 w A0 l.length l) (hI : ∀ x ∈ l,I64 x.f1) :
  Calls Tryz.prog 29 #[.slice A0 l.length c0] w fun e w'=>e = .returned (.bool (soundL l)) ∧ Below w.heap.size w w':=by
 have HH:=hidF (fun W (hb : Below w.heap.size w W)=>containsFunc_c 66 enter_sound1 _ sound1_c A0 c0 l W (Kd.C_below hr hb) hI)
 have hl : l.length ≤ 9223372036854775807:=hr.2.1
 have hA : Hid ((!l.any fun x=>!soundV x.f0 x.f1 x.f2 x.f3) = l.all fun x=>soundV x.f0 x.f1 x.f2 x.f3):=hidF (by rw [List.not_any_eq_all_not];simp)
 clear hr hI
 unfold soundL
 by_cases h : l.length ≤ 1024
 ·have hd : decide ((l.length : Int) ≤ 1024) = true:=decide_eq_true (by omega)
  go_enter Tryz.func29,Tryz.ntmps29
  go_wp2_with (go_at_call 65;refine (HH.out _ (by repeat (first | (with_reducible exact Below.refl _ _) | (with_reducible refine below_al ?_ _) | (with_reducible refine below_drewN ?_ _) | (with_reducible refine Below.drew ?_) | (with_reducible refine below_via (by assumption) ?_) | (with_reducible refine below_sc ?_ ?_ _;· (first | (simp;done) | (simp;omega) | omega))))).mono ?_;rintro e w' ⟨rfl,hb⟩)
  go_ret
  exact ⟨by rw [decide_eq_true h,Bool.true_and,← hA.out] <;> rfl,(by repeat (first | (with_reducible exact Below.refl _ _) | (with_reducible refine below_al ?_ _) | (with_reducible refine below_drewN ?_ _) | (with_reducible refine Below.drew ?_) | (with_reducible refine below_via (by assumption) ?_) | (with_reducible refine below_sc ?_ ?_ _;· (first | (simp;done) | (simp;omega) | omega))))⟩
 ·have hd : decide ((l.length : Int) ≤ 1024) = false:=decide_eq_false (by omega)
  go_enter Tryz.func29,Tryz.ntmps29
  go_wp2_with fail
  go_ret
  exact ⟨by rw [decide_eq_false h,Bool.false_and] <;> rfl,(by repeat (first | (with_reducible exact Below.refl _ _) | (with_reducible refine below_al ?_ _) | (with_reducible refine below_drewN ?_ _) | (with_reducible refine Below.drew ?_) | (with_reducible refine below_via (by assumption) ?_) | (with_reducible refine below_sc ?_ ?_ _;· (first | (simp;done) | (simp;omega) | omega))))⟩
end Go.Proofs.YthpkjkcfhipjhaaGreatDoor
end
section
namespace Go.Proofs.YthpkjkcfhipjhaaGreatDoor
set_option linter.unusedVariables false
set_option linter.unusedSimpArgs false
open Go.RowKit Go.Proofs.YthpkjkcfhipjhaaGreatDoorW.PrintWords Go.Proofs.YthpkjkcfhipjhaaGreatDoorW.PrintLast PRW
def toV (x : S64) : V:=⟨x.f0,x.f1,x.f2,x.f3⟩
theorem enter_compare : ∀ args w,(callFunc 70 args).run Tryz.prog w = .ok (.enter 70 args) w:=by
 intro args w
 simp [go_sem,Tryz.func70]
set_option maxRecDepth 100000 in
set_option maxHeartbeats 2000000 in
theorem compareFunc_c (A0 A1 : Option Addr) (c0 c1 : Nat) (l m : List S64) (w : World)
  (hr : Kd.C k64 w A0 l.length l) (hm : Kd.C k64 w A1 m.length m) (hI : ∀ x ∈ l,I64 x.f1) (hJ : ∀ x ∈ m,I64 x.f1) :
  Calls Tryz.prog 69 #[.slice A0 l.length c0,.slice A1 m.length c1,.func (.func 70) #[] #[]] w fun e w'=>e = .returned (.int .i64 (cmpL (l.map toV) (m.map toV))) ∧ Below w.heap.size w w':=by
 have HR:=hidF hr
 have HM:=hidF hm
 have HI:=hidF hI
 have HJ:=hidF hJ
 have hl : l.length ≤ 9223372036854775807:=hr.2.1
 have hml : m.length ≤ 9223372036854775807:=hm.2.1
 clear hr hI hm hJ
 have hu:=Tryz.underlying64
 have eg:=enter_compare
 go_enter Tryz.func69,Tryz.ntmps69
 go_wp2
 go_loopw [13] (fun v wr=>∃ c : Int,v = Value.int .i64 c ∧ 0 ≤ c ∧ c ≤ l.length ∧ c ≤ m.length ∧ Below w.heap.size w wr ∧ Hid (cmpL (l.map toV) (m.map toV) = cmpL ((l.drop c.toNat).map toV) ((m.drop c.toNat).map toV))) (fun v _=>l.length - natOf v)
 case atStart=>exact ⟨0,rfl,by omega,by omega,by omega,Below.refl _ _,hidF (by simp)⟩
 case round =>
  obtain ⟨c,rfl,hc0,hcl,hcm,HB,hE⟩:=hrel
  by_cases hlt : c < l.length
  ·have hx:=HI.out _ (rd_mem l c hc0 hlt)
   have hD:=hidF (drop_rd l c hc0 hlt)
   obtain ⟨ad,e,h0,h1,h2,h3⟩:=at_T64 HR.out c hc0 hlt
   cases e
   replace h0:=(HB.cell (World.block_lt_of_cell? w _ h0)).trans h0
   replace h1:=(HB.cell (World.block_lt_of_cell? w _ h1)).trans h1
   replace h2:=(HB.cell (World.block_lt_of_cell? w _ h2)).trans h2
   replace h3:=(HB.cell (World.block_lt_of_cell? w _ h3)).trans h3
   by_cases hlt2 : c < m.length
   ·have hy:=HJ.out _ (rd_mem m c hc0 hlt2)
    have hD2:=hidF (drop_rd m c hc0 hlt2)
    obtain ⟨bd,e2,g0,g1,g2,g3⟩:=at_T64 HM.out c hc0 hlt2
    cases e2
    replace g0:=(HB.cell (World.block_lt_of_cell? w _ g0)).trans g0
    replace g1:=(HB.cell (World.block_lt_of_cell? w _ g1)).trans g1
    replace g2:=(HB.cell (World.block_lt_of_cell? w _ g2)).trans g2
    replace g3:=(HB.cell (World.block_lt_of_cell? w _ g3)).trans g3
    have CS:=fun W=>compare_c (rd_T64 l c).f0 (rd_T64 l c).f1 (rd_T64 l c).f2 (rd_T64 l c).f3 (rd_T64 m c).f0 (rd_T64 m c).f1 (rd_T64 m c).f2 (rd_T64 m c).f3 W hx hy
    obtain ⟨q,hq⟩ : ∃ q,cmpV (rd_T64 l c).f0 (rd_T64 l c).f1 (rd_T64 l c).f2 (rd_T64 l c).f3 (rd_T64 m c).f0 (rd_T64 m c).f1 (rd_T64 m c).f2 (rd_T64 m c).f3 = q:=⟨_,rfl⟩
    rw [hq] at CS
    have hcV : cV (toV (rd_T64 l c)) (toV (rd_T64 m c)) = q:=hq
    have CS2:=hidF CS
    have l0:=World.block_lt_of_cell? wr _ h0
    have l1:=World.block_lt_of_cell? wr _ g0
    by_cases hq0 : q = 0
    ·have hE2 : Hid (cmpL (l.map toV) (m.map toV) = cmpL ((l.drop (c + 1).toNat).map toV) ((m.drop (c + 1).toNat).map toV)):=hidF (by rw [hE.out,hD.out,hD2.out,List.map_cons,List.map_cons,cmpL,if_neg (by rw [hcV];simpa using hq0)])
     have hb0 : (q != 0) = false:=by simpa using hq0
     have HB2:=hidF HB;clear HB;have HB:=HB2
     clear CS hE hx hy hq hcV hq0
     go_wp2_with (go_at_fn 70;(with_reducible refine (CS2.out _).mono ?_);rintro e w1 ⟨rfl,hb⟩)
     go_roundw
     case rel=>exact ⟨c + 1,rfl,by omega,by omega,by omega,(by repeat (first | (with_reducible exact HB.out) | (with_reducible exact Below.refl _ _) | (with_reducible refine below_al ?_ _) | (with_reducible refine below_drewN ?_ _) | (with_reducible refine Below.drew ?_) | (with_reducible refine below_via (by assumption) ?_) | (with_reducible refine below_sc ?_ ?_ _;· (first | (simp;done) | (simp;omega) | omega)))),hE2⟩
     case measure=>simp [natOf];omega
    ·have hE2 : Hid (cmpL (l.map toV) (m.map toV) = q):=hidF (by rw [hE.out,hD.out,hD2.out,List.map_cons,List.map_cons,cmpL,hcV,if_pos hq0])
     have hb0 : (q != 0) = true:=by simpa using hq0
     have HB2:=hidF HB;clear HB;have HB:=HB2
     clear CS hE hx hy hq hcV hq0
     go_wp2_with (go_at_fn 70;(with_reducible refine (CS2.out _).mono ?_);rintro e w1 ⟨rfl,hb⟩)
     go_ret
     exact ⟨by rw [hE2.out] <;> rfl,(by repeat (first | (with_reducible exact HB.out) | (with_reducible exact Below.refl _ _) | (with_reducible refine below_al ?_ _) | (with_reducible refine below_drewN ?_ _) | (with_reducible refine Below.drew ?_) | (with_reducible refine below_via (by assumption) ?_) | (with_reducible refine below_sc ?_ ?_ _;· (first | (simp;done) | (simp;omega) | omega))))⟩
   ·have hce : c = m.length:=by omega
    have hE2 : Hid (cmpL (l.map toV) (m.map toV) = 1):=hidF (by rw [hE.out,hD.out,List.drop_of_length_le (l:=m) (by omega)];rfl)
    have hd : decide (c ≥ (m.length : Int)) = true:=decide_eq_true (by omega)
    have HB2:=hidF HB;clear HB;have HB:=HB2
    clear hce hE hx
    go_wp2
    go_ret
    exact ⟨by rw [hE2.out] <;> rfl,(by repeat (first | (with_reducible exact HB.out) | (with_reducible exact Below.refl _ _) | (with_reducible refine below_al ?_ _) | (with_reducible refine below_drewN ?_ _) | (with_reducible refine Below.drew ?_) | (with_reducible refine below_via (by assumption) ?_) | (with_reducible refine below_sc ?_ ?_ _;· (first | (simp;done) | (simp;omega) | omega))))⟩
  ·have hce : c = l.length:=by omega
   by_cases hm2 : l.length < m.length
   ·have hE2 : Hid (cmpL (l.map toV) (m.map toV) = -1):=hidF (by
     rw [hE.out,List.drop_of_length_le (l:=l) (by omega)]
     have hlt2 : c < m.length:=by omega
     rw [drop_rd m c hc0 hlt2];rfl)
    have hd : decide (l.length < m.length) = true:=decide_eq_true hm2
    have hd2 : decide ((l.length : Int) < m.length) = true:=decide_eq_true (by omega)
    clear hce hE
    go_wp2
    go_ret
    exact ⟨by rw [hE2.out] <;> rfl,HB⟩
   ·have hE2 : Hid (cmpL (l.map toV) (m.map toV) = 0):=hidF (by
     rw [hE.out,List.drop_of_length_le (l:=l) (by omega),List.drop_of_length_le (l:=m) (by omega)];rfl)
    have hd : decide (l.length < m.length) = false:=decide_eq_false hm2
    have hd2 : decide ((l.length : Int) < m.length) = false:=decide_eq_false (by omega)
    clear hce hE
    go_wp2
    go_ret
    exact ⟨by rw [hE2.out] <;> rfl,HB⟩
/-- the order of raw rows -/
def cmpLS (l m : List S64) : Int:=if soundL l && soundL m then cmpL (l.map toV) (m.map toV) else 0
set_option maxRecDepth 100000 in
theorem rowCompare_c (A0 A1 : Option Addr) (c0 c1 : Nat) (l m : List S64) (w : World)
  (hr : Kd.C k64 w A0 l.length l) (hm : Kd.C k64 w A1 m.length m) (hI : ∀ x ∈ l,I64 x.f1) (hJ : ∀ x ∈ m,I64 x.f1) :
  Calls Tryz.prog 31 #[.slice A0 l.length c0,.slice A1 m.length c1] w fun e w'=>e = .returned (.int .i64 (cmpLS l m)) ∧ Below w.heap.size w w':=by
 have H1:=hidF (fun W (hb : Below w.heap.size w W)=>rowSound_c A0 c0 l W (Kd.C_below hr hb) hI)
 have H2:=hidF (fun W (hb : Below w.heap.size w W)=>rowSound_c A1 c1 m W (Kd.C_below hm hb) hJ)
 have H3:=hidF (fun W (hb : Below w.heap.size w W)=>compareFunc_c A0 A1 c0 c1 l m W (Kd.C_below hr hb) (Kd.C_below hm hb) hI hJ)
 clear hr hI hm hJ
 unfold cmpLS
 cases h1 : soundL l
 ·rw [h1] at H1
  clear h1
  go_enter Tryz.func31,Tryz.ntmps31
  go_wp2_with (go_at_call 29;(with_reducible refine (H1.out _ (by repeat (first | (with_reducible exact Below.refl _ _) | (with_reducible refine below_al ?_ _) | (with_reducible refine below_drewN ?_ _) | (with_reducible refine Below.drew ?_) | (with_reducible refine below_via (by assumption) ?_) | (with_reducible refine below_sc ?_ ?_ _;· (first | (simp;done) | (simp;omega) | omega))))).mono ?_);rintro e w1 ⟨rfl,hb1⟩)
  go_ret
  exact ⟨rfl,(by repeat (first | (with_reducible exact Below.refl _ _) | (with_reducible refine below_al ?_ _) | (with_reducible refine below_drewN ?_ _) | (with_reducible refine Below.drew ?_) | (with_reducible refine below_via (by assumption) ?_) | (with_reducible refine below_sc ?_ ?_ _;· (first | (simp;done) | (simp;omega) | omega))))⟩
 ·rw [h1] at H1
  clear h1
  cases h2 : soundL m
  ·rw [h2] at H2
   clear h2
   go_enter Tryz.func31,Tryz.ntmps31
   go_wp2_with (first | (go_at_call 29;(with_reducible refine (H1.out _ (by repeat (first | (with_reducible exact Below.refl _ _) | (with_reducible refine below_al ?_ _) | (with_reducible refine below_drewN ?_ _) | (with_reducible refine Below.drew ?_) | (with_reducible refine below_via (by assumption) ?_) | (with_reducible refine below_sc ?_ ?_ _;· (first | (simp;done) | (simp;omega) | omega))))).mono ?_);rintro e w1 ⟨rfl,hb1⟩) | (go_at_call 29;(with_reducible refine (H2.out _ (by repeat (first | (with_reducible exact Below.refl _ _) | (with_reducible refine below_al ?_ _) | (with_reducible refine below_drewN ?_ _) | (with_reducible refine Below.drew ?_) | (with_reducible refine below_via (by assumption) ?_) | (with_reducible refine below_sc ?_ ?_ _;· (first | (simp;done) | (simp;omega) | omega))))).mono ?_);rintro e w2 ⟨rfl,hb2⟩))
   go_ret
   exact ⟨rfl,(by repeat (first | (with_reducible exact Below.refl _ _) | (with_reducible refine below_al ?_ _) | (with_reducible refine below_drewN ?_ _) | (with_reducible refine Below.drew ?_) | (with_reducible refine below_via (by assumption) ?_) | (with_reducible refine below_sc ?_ ?_ _;· (first | (simp;done) | (simp;omega) | omega))))⟩
  ·rw [h2] at H2
   clear h2
   go_enter Tryz.func31,Tryz.ntmps31
   go_wp2_with (first | (go_at_call 29;(with_reducible refine (H1.out _ (by repeat (first | (with_reducible exact Below.refl _ _) | (with_reducible refine below_al ?_ _) | (with_reducible refine below_drewN ?_ _) | (with_reducible refine Below.drew ?_) | (with_reducible refine below_via (by assumption) ?_) | (with_reducible refine below_sc ?_ ?_ _;· (first | (simp;done) | (simp;omega) | omega))))).mono ?_);rintro e w1 ⟨rfl,hb1⟩) | (go_at_call 29;(with_reducible refine (H2.out _ (by repeat (first | (with_reducible exact Below.refl _ _) | (with_reducible refine below_al ?_ _) | (with_reducible refine below_drewN ?_ _) | (with_reducible refine Below.drew ?_) | (with_reducible refine below_via (by assumption) ?_) | (with_reducible refine below_sc ?_ ?_ _;· (first | (simp;done) | (simp;omega) | omega))))).mono ?_);rintro e w2 ⟨rfl,hb2⟩) | (go_at_call 69;(with_reducible refine (H3.out _ (by repeat (first | (with_reducible exact Below.refl _ _) | (with_reducible refine below_al ?_ _) | (with_reducible refine below_drewN ?_ _) | (with_reducible refine Below.drew ?_) | (with_reducible refine below_via (by assumption) ?_) | (with_reducible refine below_sc ?_ ?_ _;· (first | (simp;done) | (simp;omega) | omega))))).mono ?_);rintro e w3 ⟨rfl,hb3⟩))
   go_ret
   exact ⟨rfl,(by repeat (first | (with_reducible exact Below.refl _ _) | (with_reducible refine below_al ?_ _) | (with_reducible refine below_drewN ?_ _) | (with_reducible refine Below.drew ?_) | (with_reducible refine below_via (by assumption) ?_) | (with_reducible refine below_sc ?_ ?_ _;· (first | (simp;done) | (simp;omega) | omega))))⟩
end Go.Proofs.YthpkjkcfhipjhaaGreatDoor
end
section
namespace Go.Proofs.YthpkjkcfhipjhaaGreatDoor
set_option linter.unusedVariables false
set_option linter.unusedSimpArgs false
open Go.RowKit Go.Proofs.YthpkjkcfhipjhaaGreatDoorW.PrintWords Go.Proofs.YthpkjkcfhipjhaaGreatDoorW.PrintLast
/-- the bytes l as a string -/
def bs (l : List UInt8) : ByteArray:=⟨l.toArray⟩
/-- all but block b is as it was -/
structure Fr (b : Nat) (w w' : World) : Prop where
 os : w'.os = w.os
 tape : w'.tape = w.tape
 output : w'.output = w.output
 size : w.heap.size ≤ w'.heap.size
 block : ∀ k,k < w.heap.size → k ≠ b → w'.heap[k]? = w.heap[k]?
theorem Fr.refl (b : Nat) (w : World) : Fr b w w:=⟨rfl,rfl,rfl,Nat.le_refl _,fun _ _ _=>rfl⟩
theorem Fr.trans {b : Nat} {w w1 w2 : World} (h : Fr b w w1) (k : Fr b w1 w2) : Fr b w w2 :=
 ⟨k.os.trans h.os,k.tape.trans h.tape,k.output.trans h.output,Nat.le_trans h.size k.size,fun i hi hb=>(k.block i (Nat.lt_of_lt_of_le hi h.size) hb).trans (h.block i hi hb)⟩
theorem Fr.of {b : Nat} {w w' : World} (h : Below w.heap.size w w') : Fr b w w':=⟨h.os,h.tape,h.output,h.size,fun i hi _=>h.block i hi⟩
theorem Fr.add {b : Nat} {w w1 w2 : World} (h : Fr b w w1) (k : Below w1.heap.size w1 w2) : Fr b w w2:=h.trans (.of k)
theorem Fr.set {b : Nat} {w w1 : World} (h : Fr b w w1) (o : Nat) (u : Value) : Fr b w (w1.setCell ⟨b,o,none⟩ u) :=
 h.trans ⟨rfl,rfl,rfl,by simp,fun i _ hb=>Below.heap_setCell w1 ⟨b,o,none⟩ u i hb⟩
theorem Fr.below {b B : Nat} {w0 w w' : World} (h : Fr b w w') (hb : Below B w0 w) (hB : B ≤ b) (hs : B ≤ w.heap.size) : Below B w0 w' :=
 ⟨h.os.trans hb.os,h.tape.trans hb.tape,h.output.trans hb.output,Nat.le_trans hb.size h.size,fun i hi=>(h.block i (by omega) (by omega)).trans (hb.block i hi)⟩
theorem Fr.cell {b : Nat} {w w' : World} (h : Fr b w w') (k o : Nat) (hk : k < w.heap.size) (hb : k ≠ b) : w'.cell? ⟨k,o,none⟩ = w.cell? ⟨k,o,none⟩:=by
 unfold World.cell?;rw [h.block k hk hb]
theorem Fr.frozen {b : Nat} {w w' : World} (h : Fr b w w') (k o : Nat) (hk : k < w.heap.size) (hb : k ≠ b) : w'.frozen? ⟨k,o,none⟩ = w.frozen? ⟨k,o,none⟩:=by
 unfold World.frozen?;rw [h.block k hk hb]
end Go.Proofs.YthpkjkcfhipjhaaGreatDoor
end
section
namespace Go.Proofs.YthpkjkcfhipjhaaGreatDoor
set_option linter.unusedVariables false
set_option linter.unusedSimpArgs false
open Go.RowKit Go.Proofs.YthpkjkcfhipjhaaGreatDoorW.PrintWords Go.Proofs.YthpkjkcfhipjhaaGreatDoorW.PrintLast
theorem own_fr {B b e size n : Nat} {v : Value} {xs : List Value} {w w' : World} (h : w.ownsRow B e size v n xs) (hf : Fr b w w') (hb : b < B) : w'.ownsRow B e size v n xs:=by
 obtain ⟨h1,h2⟩:=h
 refine ⟨h1, ?_⟩
 rcases h2 with h2 | ⟨g,cap,cur,hv,hB,hh,hr⟩
 ·exact .inl h2
 ·refine .inr ⟨g,cap,cur,hv,hB, ?_,hr⟩
  have hlt : g < w.heap.size:=by
   rcases Nat.lt_or_ge g w.heap.size with h' | h'
   ·exact h'
   ·simp [Array.getElem?_eq_none h'] at hh
  rw [hf.block g hlt (by omega)];exact hh
theorem Bld.fr {B g b : Nat} {l : List UInt8} {w w' : World} (h : Bld B g l w) (hf : Fr b w w') (hb : b < B) : Bld B g l w':=by
 have hlt:=h.lt
 rcases h with ⟨hB,v,hbk,hown,hne⟩ | ⟨hB,v,hbk,hown,hne⟩
 ·exact .inl ⟨hB,v,(hf.block g hlt (by omega)).trans hbk,own_fr hown hf hb,hne⟩
 ·exact .inr ⟨hB,v,(hf.block g hlt (by omega)).trans hbk,own_fr hown hf hb,hne⟩
end Go.Proofs.YthpkjkcfhipjhaaGreatDoor
end
section
namespace Go.Proofs.YthpkjkcfhipjhaaGreatDoor
set_option linter.unusedVariables false
set_option linter.unusedSimpArgs false
open Go.RowKit Go.Proofs.YthpkjkcfhipjhaaGreatDoorW.PrintWords Go.Proofs.YthpkjkcfhipjhaaGreatDoorW.PrintLast
theorem Fr.new {b g : Nat} {w w1 : World} (h : Fr b w w1) (hg : w.heap.size ≤ g) (o : Nat) (u : Value) : Fr b w (w1.setCell ⟨g,o,none⟩ u) :=
 ⟨h.os,h.tape,h.output,by simp;exact h.size,fun k hk hb=>by rw [Below.heap_setCell w1 ⟨g,o,none⟩ u k (show k ≠ g by omega)];exact h.block k hk hb⟩
end Go.Proofs.YthpkjkcfhipjhaaGreatDoor
end
section
namespace Go.Proofs.YthpkjkcfhipjhaaGreatDoor
set_option linter.unusedVariables false
set_option linter.unusedSimpArgs false
open Go.RowKit Go.Proofs.YthpkjkcfhipjhaaGreatDoorW.PrintWords Go.Proofs.YthpkjkcfhipjhaaGreatDoorW.PrintLast PRW
section
end
/-- the program's value -/
def ofV (x : V) : S64:=⟨x.k,x.n,x.f,x.t⟩
theorem ofV_toV (x : S64) : ofV (toV x) = x:=rfl
/-- the row of these bytes -/
def decB (l : List UInt8) : Except Int (List V):=decR (l.length + 1) [] l
end Go.Proofs.YthpkjkcfhipjhaaGreatDoor
end
section
namespace Go.Proofs.YthpkjkcfhipjhaaGreatDoor
set_option linter.unusedVariables false
set_option linter.unusedSimpArgs false
open Go.RowKit Go.Proofs.YthpkjkcfhipjhaaGreatDoorW.PrintWords Go.Proofs.YthpkjkcfhipjhaaGreatDoorW.PrintLast
theorem heap_lt {w : World} {k : Nat} {o : Obj} (hh : w.heap[k]? = some o) : k < w.heap.size:=by
 rcases Nat.lt_or_ge k w.heap.size with h' | h'
 ·exact h'
 ·simp [Array.getElem?_eq_none h'] at hh
end Go.Proofs.YthpkjkcfhipjhaaGreatDoor
end
section
namespace Go.Proofs.YthpkjkcfhipjhaaGreatDoor
set_option linter.unusedVariables false
set_option linter.unusedSimpArgs false
open Go.RowKit Go.Proofs.YthpkjkcfhipjhaaGreatDoorW.PrintWords Go.Proofs.YthpkjkcfhipjhaaGreatDoorW.PrintLast PRW
/-- what the library's tables and variables hold -/
structure RTab (w : World) : Prop where
 pow : Tab w
 deB : TabD w
 len : ∃ m,w.cell? ⟨1,0,none⟩ = some (.int .i64 m)
theorem RTab.one {w : World} (h : RTab w) : 1 < w.heap.size:=by
 obtain ⟨m,hm⟩:=h.len
 exact World.block_lt_of_cell? w _ hm
theorem RTab.below {w w' : World} (h : RTab w) (hb : Below w.heap.size w w') : RTab w':=by
 obtain ⟨m,hm⟩:=h.len
 exact ⟨h.pow.below hb,Lib.tabBelow_of_tabIs h.deB w' hb,m,by rw [hb.cell (p:=⟨1,0,none⟩) h.one];exact hm⟩
theorem Bld.bel {B g : Nat} {l : List UInt8} {w w' : World} (h : Bld B g l w) (hf : Below w.heap.size w w') : Bld B g l w':=by
 have hlt:=h.lt
 have own : ∀ {v : Value} {n : Nat} {xs : List Value},w.ownsRow B 5 1 v n xs → w'.ownsRow B 5 1 v n xs:=by
  rintro v n xs ⟨h1,h2⟩
  refine ⟨h1, ?_⟩
  rcases h2 with h2 | ⟨g,cap,cur,hv,hB,hh,hr⟩
  ·exact .inl h2
  ·exact .inr ⟨g,cap,cur,hv,hB,by rw [hf.block g (heap_lt hh)];exact hh,hr⟩
 rcases h with ⟨hB,v,hbk,hown,hne⟩ | ⟨hB,v,hbk,hown,hne⟩
 ·exact .inl ⟨hB,v,(hf.block g hlt).trans hbk,own hown,hne⟩
 ·exact .inr ⟨hB,v,(hf.block g hlt).trans hbk,own hown,hne⟩
end Go.Proofs.YthpkjkcfhipjhaaGreatDoor
end
section
namespace Go.Proofs.YthpkjkcfhipjhaaGreatDoor
set_option linter.unusedVariables false
set_option linter.unusedSimpArgs false
open Go.RowKit Go.Proofs.YthpkjkcfhipjhaaGreatDoorW.PrintWords Go.Proofs.YthpkjkcfhipjhaaGreatDoorW.PrintLast PRW
theorem tab_at {w0 W : World} (h : RTab w0) (hb : Below w0.heap.size w0 W) : RTab W:=h.below hb
theorem tab_drew {w0 : World} (h : RTab w0) : RTab w0.drew:=h.below (Below.refl _ _).drew
theorem tab_drewN {w0 : World} {n : Nat} (h : RTab w0) : RTab (w0.drewN n):=h.below (below_drewN (Below.refl _ _) n)
theorem ext_of {α : Type} {c : Prop} [Decidable c] {x r : α} (h : (if c then some x else none) = some r) : c ∧ x = r:=by
 split at h
 ·exact ⟨‹_›,Option.some.inj h⟩
 ·cases h
/-- all numbers are such as the machine has -/
def rngV (x : S64) : Bool:=decide (-9223372036854775808 ≤ x.f1) && decide (x.f1 ≤ 9223372036854775807) && decide (0 ≤ x.f2) && decide (x.f2 < 18446744073709551616)
def rngL (l : List S64) : Bool:=l.all rngV
theorem rngV_iff (x : S64) : rngV x = true ↔ I64 x.f1 ∧ U64 x.f2:=by
 unfold rngV I64 U64;simp [and_assoc]
theorem rngL_I {l : List S64} (h : rngL l = true) : ∀ x ∈ l,I64 x.f1:=fun x hx=>((rngV_iff x).1 (List.all_eq_true.1 h x hx)).1
theorem rngL_U {l : List S64} (h : rngL l = true) : ∀ x ∈ l,U64 x.f2:=fun x hx=>((rngV_iff x).1 (List.all_eq_true.1 h x hx)).2
def xShow.f (k n f : Int) (t : ByteArray) : Option ByteArray:=if (-9223372036854775808 ≤ n ∧ n ≤ 9223372036854775807) ∧ (0 ≤ f ∧ f < 18446744073709551616) then some ⟨(showL k n f t).toArray⟩ else none
theorem xShow.calls (k n f : Int) (t : ByteArray) (r : ByteArray) (w : World) (hT : RTab w) (h : xShow.f k n f t = some r) :
  Calls Tryz.prog 72 #[.agg #[.int .i64 k,.int .i64 n,.int .u64 f,.string t]] w fun e w'=>e = .returned (.string r) ∧ Below w.heap.size w w':=by
 obtain ⟨⟨hn,hf⟩,rfl⟩:=ext_of h
 exact show_c k n f t w hn hf hT.pow hT.deB
def xrSound.f (k n f : Int) (t : ByteArray) : Option Bool:=if 0 ≤ f ∧ f < 18446744073709551616 then some (soundV k n f t) else none
theorem xrSound.calls (k n f : Int) (t : ByteArray) (r : Bool) (w : World) (h : xrSound.f k n f t = some r) :
  Calls Tryz.prog 68 #[.agg #[.int .i64 k,.int .i64 n,.int .u64 f,.string t]] w fun e w'=>e = .returned (.bool r) ∧ Below w.heap.size w w':=by
 obtain ⟨hn,rfl⟩:=ext_of h
 exact rSound_c k n f t w hn
def xRowSound.f (l : List S64) : Option Bool:=if rngL l = true then some (soundL l) else none
theorem xRowSound.calls (A0 : Option Addr) (c0 : Nat) (l : List S64) (r : Bool) (w : World) (hr0 : Kd.C k64 w A0 l.length l) (hc0 : l.length ≤ c0) (h : xRowSound.f l = some r) :
  Calls Tryz.prog 29 #[.slice A0 l.length c0] w fun e w'=>e = .returned (.bool r) ∧ Below w.heap.size w w':=by
 obtain ⟨hl,rfl⟩:=ext_of h
 exact rowSound_c A0 c0 l w hr0 (rngL_I hl)
def xRowCompare.f (l m : List S64) : Option Int:=if rngL l = true ∧ rngL m = true then some (cmpLS l m) else none
theorem xRowCompare.calls (A0 : Option Addr) (c0 : Nat) (l : List S64) (A1 : Option Addr) (c1 : Nat) (m : List S64) (r : Int) (w : World) (hr0 : Kd.C k64 w A0 l.length l) (hc0 : l.length ≤ c0) (hr1 : Kd.C k64 w A1 m.length m) (hc1 : m.length ≤ c1) (h : xRowCompare.f l m = some r) :
  Calls Tryz.prog 31 #[.slice A0 l.length c0,.slice A1 m.length c1] w fun e w'=>e = .returned (.int .i64 r) ∧ Below w.heap.size w w':=by
 obtain ⟨⟨hl,hm⟩,rfl⟩:=ext_of h
 exact rowCompare_c A0 A1 c0 c1 l m w hr0 hr1 (rngL_I hl) (rngL_I hm)
def xJoin.f (xs : List ByteArray) (sep : ByteArray) : Option ByteArray :=
 if xs.length ≤ 140737488355328 ∧ (Lib.join (xs.map (·.data.toList)) sep.data.toList).length ≤ 140737488355328 then some ⟨(Lib.join (xs.map (·.data.toList)) sep.data.toList).toArray⟩ else none
theorem xJoin.calls (A0 : Option Addr) (c0 : Nat) (l0 : List ByteArray) (sep r : ByteArray) (w : World) (hr0 : Kd.C Kd.string w A0 l0.length l0) (hc0 : l0.length ≤ c0) (h : xJoin.f l0 sep = some r) :
  Calls Tryz.prog 51 #[.slice A0 l0.length c0,.string sep] w fun e w'=>e = .returned (.string r) ∧ Below w.heap.size w w':=by
 unfold xJoin.f at h
 split at h
 ·rename_i hc
  cases Option.some.inj h
  obtain ⟨h1,h2,h3⟩:=hr0
  match l0,hc,h3,hc0 with
  | [],_,_,_ =>
   refine (Tryz.strings_Join_none A0 c0 sep w).mono ?_
   rintro e w' ⟨rfl,rfl⟩
   exact ⟨rfl,Below.refl _ _⟩
  | x :: t,hc,h3,hc0 =>
   obtain ⟨ad,rfl,hcells⟩:=h3 (by simp)
   have cell : ∀ (j : Nat) y,(x :: t)[j]? = some y → w.cell? (ad.add j) = some (.string y):=by
    intro j y hy
    obtain ⟨c,hl,hK,hcl⟩:=hcells j y hy
    have hK' : c = [.string y]:=hK
    subst hK'
    have:=hcl 0 (.string y) rfl
    simpa [show Kd.string.sz = 1 from rfl] using this
   have hsp : ad.spot = none:=by
    have h0:=cell 0 x rfl
    simp only [Addr.add,if_true] at h0
    unfold World.cell? at h0
    cases hh : ad.spot with
    | none=>rfl
    | some k =>
     rw [hh] at h0
     split at h0 <;> simp at h0
   obtain ⟨bk,o,spt⟩:=ad
   simp only at hsp
   subst hsp
   have cell2 : ∀ (j : Nat) y,(x :: t)[j]? = some y → w.cell? ⟨bk,o + j,none⟩ = some (.string y):=by
    intro j y hy
    have:=cell j y hy
    unfold Addr.add at this
    split at this
    ·subst_vars;simpa using this
    ·exact this
   exact Tryz.strings_Join bk o c0 (x :: t) sep w cell2 (World.block_lt_of_cell? w _ (cell2 0 x rfl)) hc.1 hc0 hc.2
 ·cases h
end Go.Proofs.YthpkjkcfhipjhaaGreatDoor
end
