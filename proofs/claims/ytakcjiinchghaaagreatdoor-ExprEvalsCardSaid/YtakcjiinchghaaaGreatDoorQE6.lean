/- a part of the claim: what the card leans on, out of the texts R2, XE, XE2, E2, E3, EW1, EW2, EW3, EK1, EK2, EK2f, EK2n, EK3, XE5 (put together by wip/tools/shake.py). -/
import Derived.Test.YtakcjiinchghaaaGreatDoorQE2
import Derived.Test.YtakcjiinchghaaaGreatDoorQE3
import Derived.Test.YtakcjiinchghaaaGreatDoorQE4
import Derived.Test.YtakcjiinchghaaaGreatDoorQE5
import Derived.Shelf.Abstract
import Derived.Deep.RegionHeld3
import Derived.Deep.RegionLaw
import Derived.Deep.DeepCutAuto
section
namespace Go.Proofs.YtakcjiinchghaaaGreatDoor
set_option linter.unusedVariables false
set_option linter.unusedSimpArgs false
open Go.RowKit Go.Proofs.YtakcjiinchghaaaGreatDoorW.PrintWords Go.Proofs.YtakcjiinchghaaaGreatDoorW.PrintLast PRW
theorem hidF {p : Prop} (h : p) : Hid p:=h
/-- function g tells p of a value -/
def ValPred (g : Nat) (p : S29 → Bool) : Prop:=∀ (x : S29) (W : World),I64 x.f1 → Calls Tryz.prog g #[.agg #[.int .i64 x.f0,.int .i64 x.f1,.int .u64 x.f2,.string x.f3]] W fun e w'=>e = .returned (.bool (p x)) ∧ Below W.heap.size W w'
/-- the first place where p holds; -1: nowhere -/
def idxP {α : Type} (p : α → Bool) : List α → Int → Int
 | [],_=>-1
 | x :: t,i=>if p x then i else idxP p t (i + 1)
def natOf : Value → Nat
 | .int _ n=>n.toNat
 | _=>0
theorem drop_rd (L : List S29) (c : Int) (h0 : 0 ≤ c) (h : c < L.length) : L.drop c.toNat = rd_T29 L c :: L.drop (c + 1).toNat:=by
 have h' : c.toNat < L.length:=by omega
 rw [List.drop_eq_getElem_cons h',show (c + 1).toNat = c.toNat + 1 by omega]
 unfold rd_T29
 simp [h']
theorem rd_mem (L : List S29) (c : Int) (h0 : 0 ≤ c) (h : c < L.length) : rd_T29 L c ∈ L:=by
 have h' : c.toNat < L.length:=by omega
 unfold rd_T29
 simp [h']
set_option maxRecDepth 100000 in
set_option maxHeartbeats 1000000 in
theorem indexFunc_c (g : Nat) (eg : ∀ args w,(callFunc g args).run Tryz.prog w = .ok (.enter g args) w) (p : S29 → Bool) (hp : ValPred g p) (A0 : Option Addr) (c0 : Nat) (l : List S29) (w : World)
  (hr : Kd.C k29 w A0 l.length l) (hI : ∀ x ∈ l,I64 x.f1) :
  Calls Tryz.prog 95 #[.slice A0 l.length c0,.func (.func g) #[] #[]] w fun e w'=>e = .returned (.int .i64 (idxP p l 0)) ∧ Below w.heap.size w w':=by
 have HR:=hidF hr
 have HI:=hidF hI
 have hl : l.length ≤ 9223372036854775807:=hr.2.1
 clear hr hI
 have hu:=Tryz.underlying29
 go_enter Tryz.func95,Tryz.ntmps95
 go_wp2
 go_loopw [8] (fun v wr=>∃ c : Int,v = Value.int .i64 c ∧ 0 ≤ c ∧ c ≤ l.length ∧ Below w.heap.size w wr ∧ Hid (idxP p l 0 = idxP p (l.drop c.toNat) c)) (fun v _=>l.length - natOf v)
 case atStart=>exact ⟨0,rfl,by omega,by omega,Below.refl _ _,hidF (by simp)⟩
 case round =>
  obtain ⟨c,rfl,hc0,hcl,HB,hE⟩:=hrel
  by_cases hlt : c < l.length
  ·have hx:=HI.out _ (rd_mem l c hc0 hlt)
   have cS:=hp (rd_T29 l c) wr hx
   have hD:=hidF (drop_rd l c hc0 hlt)
   obtain ⟨ad,e,h0,h1,h2,h3⟩:=at_T29 HR.out c hc0 hlt
   cases e
   replace h0:=(HB.cell (World.block_lt_of_cell? w _ h0)).trans h0
   replace h1:=(HB.cell (World.block_lt_of_cell? w _ h1)).trans h1
   replace h2:=(HB.cell (World.block_lt_of_cell? w _ h2)).trans h2
   replace h3:=(HB.cell (World.block_lt_of_cell? w _ h3)).trans h3
   cases hpc : p (rd_T29 l c)
   ·have hE2 : Hid (idxP p l 0 = idxP p (l.drop (c + 1).toNat) (c + 1)):=hidF (by rw [hE.out,hD.out,idxP,hpc];rfl)
    rw [hpc] at cS
    have CS:=hidF cS
    clear cS hpc hE hx
    go_wp2_with (go_at_fn g;refine CS.out.mono ?_;rintro e W' ⟨rfl,hb⟩)
    go_roundw
    case rel=>exact ⟨c + 1,rfl,by omega,by omega,HB.trans (hb.mono HB.size),hE2⟩
    case measure=>simp [natOf];omega
   ·have hE2 : Hid (idxP p l 0 = c):=hidF (by rw [hE.out,hD.out,idxP,hpc];rfl)
    rw [hpc] at cS
    have CS:=hidF cS
    clear cS hpc hE hx
    go_wp2_with (go_at_fn g;refine CS.out.mono ?_;rintro e W' ⟨rfl,hb⟩)
    go_ret
    exact ⟨by rw [hE2.out] <;> rfl,HB.trans (hb.mono HB.size)⟩
  ·have hce : c = l.length:=by omega
   have hE2 : Hid (idxP p l 0 = -1):=hidF (by rw [hE.out,hce,List.drop_of_length_le (by omega)];rfl)
   clear hce
   go_wp2
   go_ret
   exact ⟨by rw [hE2.out] <;> rfl,HB⟩
theorem idxP_any {α : Type} (p : α → Bool) : ∀ (l : List α) (i : Int),0 ≤ i → decide (idxP p l i ≥ 0) = l.any p
 | [],i,_=>rfl
 | x :: t,i,h=>by
  rw [idxP,List.any_cons]
  cases hp : p x
  ·simp only [Bool.false_or,Bool.false_eq_true,if_false];exact idxP_any p t (i + 1) (by omega)
  ·simp only [if_true,Bool.true_or];simpa using h
set_option maxRecDepth 100000 in
theorem containsFunc_c (g : Nat) (eg : ∀ args w,(callFunc g args).run Tryz.prog w = .ok (.enter g args) w) (p : S29 → Bool) (hp : ValPred g p) (A0 : Option Addr) (c0 : Nat) (l : List S29) (w : World)
  (hr : Kd.C k29 w A0 l.length l) (hI : ∀ x ∈ l,I64 x.f1) :
  Calls Tryz.prog 56 #[.slice A0 l.length c0,.func (.func g) #[] #[]] w fun e w'=>e = .returned (.bool (l.any p)) ∧ Below w.heap.size w w':=by
 have HH:=hidF (indexFunc_c g eg p hp A0 c0 l w hr hI)
 have hA:=idxP_any p l 0 (by omega)
 clear hr hI
 have HA:=hidF hA
 clear hA
 go_enter Tryz.func56,Tryz.ntmps56
 go_wp2_with (go_at_call 95;refine HH.out.mono ?_;rintro e w' ⟨rfl,hb⟩)
 go_ret
 exact ⟨by rw [← HA.out] <;> rfl,hb⟩
theorem sound1_c : ValPred 57 (fun x=>!soundV x.f0 x.f1 x.f2 x.f3):=by
 intro x w hn
 have HH : ∀ W,Calls Tryz.prog 28 #[.agg #[.int .i64 x.f0,.int .i64 x.f1,.int .u64 x.f2,.string x.f3]] W fun e w'=>e = .returned (.bool (soundV x.f0 x.f1 x.f2 x.f3)) ∧ Below W.heap.size W w':=fun W=>sound_c _ _ _ _ W hn
 go_enter Tryz.func57,Tryz.ntmps57
 go_wp2_with (first | (go_at_call 28;(fail_if_success (have:=w1));((with_reducible refine (HH _).mono ?_);rintro e w1 ⟨rfl,hb1⟩;(try (replace hb1:=below_undrew hb1));(try (replace hb1:=below_undrewN hb1));obtain ⟨hc1,hf1⟩:=bcell hb1;)))
 go_ret
 exact ⟨rfl,(by repeat (first | (with_reducible exact Below.refl _ _) | (with_reducible refine below_al ?_ _) | (with_reducible refine below_drewN ?_ _) | (with_reducible refine Below.drew ?_) | (with_reducible refine below_via (by assumption) ?_) | (with_reducible refine below_sc ?_ ?_ _;· (first | (simp;done) | (simp;omega) | omega))))⟩
theorem enter_sound1 : ∀ args w,(callFunc 57 args).run Tryz.prog w = .ok (.enter 57 args) w:=by
 intro args w
 simp [go_sem,Tryz.func57]
/-- whether these are a row -/
def soundL (l : List S29) : Bool:=decide (l.length ≤ 1024) && l.all fun x=>soundV x.f0 x.f1 x.f2 x.f3
set_option maxRecDepth 100000 in
theorem rowSound_c (A0 : Option Addr) (c0 : Nat) (l : List S29) (w : World) (hr : Kd.C k29 w A0 l.length l) (hI : ∀ x ∈ l,I64 x.f1) :
  Calls Tryz.prog 30 #[.slice A0 l.length c0] w fun e w'=>e = .returned (.bool (soundL l)) ∧ Below w.heap.size w w':=by
 have HH:=hidF (fun W (hb : Below w.heap.size w W)=>containsFunc_c 57 enter_sound1 _ sound1_c A0 c0 l W (Kd.C_below hr hb) hI)
 have hl : l.length ≤ 9223372036854775807:=hr.2.1
 have hA : Hid ((!l.any fun x=>!soundV x.f0 x.f1 x.f2 x.f3) = l.all fun x=>soundV x.f0 x.f1 x.f2 x.f3):=hidF (by rw [List.not_any_eq_all_not];simp)
 clear hr hI
 unfold soundL
 by_cases h : l.length ≤ 1024
 ·have hd : decide ((l.length : Int) ≤ 1024) = true:=decide_eq_true (by omega)
  go_enter Tryz.func30,Tryz.ntmps30
  go_wp2_with (go_at_call 56;refine (HH.out _ (by repeat (first | (with_reducible exact Below.refl _ _) | (with_reducible refine below_al ?_ _) | (with_reducible refine below_drewN ?_ _) | (with_reducible refine Below.drew ?_) | (with_reducible refine below_via (by assumption) ?_) | (with_reducible refine below_sc ?_ ?_ _;· (first | (simp;done) | (simp;omega) | omega))))).mono ?_;rintro e w' ⟨rfl,hb⟩)
  go_ret
  exact ⟨by rw [decide_eq_true h,Bool.true_and,← hA.out] <;> rfl,(by repeat (first | (with_reducible exact Below.refl _ _) | (with_reducible refine below_al ?_ _) | (with_reducible refine below_drewN ?_ _) | (with_reducible refine Below.drew ?_) | (with_reducible refine below_via (by assumption) ?_) | (with_reducible refine below_sc ?_ ?_ _;· (first | (simp;done) | (simp;omega) | omega))))⟩
 ·have hd : decide ((l.length : Int) ≤ 1024) = false:=decide_eq_false (by omega)
  go_enter Tryz.func30,Tryz.ntmps30
  go_wp2_with fail
  go_ret
  exact ⟨by rw [decide_eq_false h,Bool.false_and] <;> rfl,(by repeat (first | (with_reducible exact Below.refl _ _) | (with_reducible refine below_al ?_ _) | (with_reducible refine below_drewN ?_ _) | (with_reducible refine Below.drew ?_) | (with_reducible refine below_via (by assumption) ?_) | (with_reducible refine below_sc ?_ ?_ _;· (first | (simp;done) | (simp;omega) | omega))))⟩
end Go.Proofs.YtakcjiinchghaaaGreatDoor
end
section
namespace Go.Proofs.YtakcjiinchghaaaGreatDoor
set_option linter.unusedVariables false
set_option linter.unusedSimpArgs false
open Go.RowKit Go.Proofs.YtakcjiinchghaaaGreatDoorW.PrintWords Go.Proofs.YtakcjiinchghaaaGreatDoorW.PrintLast PRW
theorem ext_of {α : Type} {c : Prop} [Decidable c] {x r : α} (h : (if c then some x else none) = some r) : c ∧ x = r:=by
 split at h
 ·exact ⟨‹_›,Option.some.inj h⟩
 ·cases h
/-- all numbers are such as the machine has -/
def rngV (x : S29) : Bool:=decide (-9223372036854775808 ≤ x.f1) && decide (x.f1 ≤ 9223372036854775807) && decide (0 ≤ x.f2) && decide (x.f2 < 18446744073709551616)
def rngL (l : List S29) : Bool:=l.all rngV
theorem rngV_iff (x : S29) : rngV x = true ↔ I64 x.f1 ∧ U64 x.f2:=by
 unfold rngV I64 U64;simp [and_assoc]
theorem rngL_I {l : List S29} (h : rngL l = true) : ∀ x ∈ l,I64 x.f1:=fun x hx=>((rngV_iff x).1 (List.all_eq_true.1 h x hx)).1
theorem rngL_U {l : List S29} (h : rngL l = true) : ∀ x ∈ l,U64 x.f2:=fun x hx=>((rngV_iff x).1 (List.all_eq_true.1 h x hx)).2
/-- so of steps -/
def rngD (e : List S41) : Bool:=e.all fun d=>decide (-9223372036854775808 ≤ d.f1) && decide (d.f1 ≤ 9223372036854775807) && rngV d.f2
theorem rngD_at {e : List S41} (h : rngD e = true) : ∀ d ∈ e,I64 d.f1 ∧ I64 d.f2.f1 ∧ U64 d.f2.f2:=fun d hd=>by
 have:=List.all_eq_true.1 h d hd
 simp only [Bool.and_eq_true,decide_eq_true_eq,rngV_iff] at this
 exact ⟨⟨this.1.1,this.1.2⟩,this.2⟩
def xSound.f (k n f : Int) (t : ByteArray) : Option Bool:=if -9223372036854775808 ≤ n ∧ n ≤ 9223372036854775807 then some (soundV k n f t) else none
theorem xSound.calls (k n f : Int) (t : ByteArray) (r : Bool) (w : World) (h : xSound.f k n f t = some r) :
  Calls Tryz.prog 28 #[.agg #[.int .i64 k,.int .i64 n,.int .u64 f,.string t]] w fun e w'=>e = .returned (.bool r) ∧ Below w.heap.size w w':=by
 obtain ⟨hn,rfl⟩:=ext_of h
 exact sound_c k n f t w hn
end Go.Proofs.YtakcjiinchghaaaGreatDoor
end
section
namespace Go.Proofs.YtakcjiinchghaaaGreatDoor
set_option linter.unusedVariables false
set_option linter.unusedSimpArgs false
open Go.RowKit Go.Proofs.YtakcjiinchghaaaGreatDoorW.PrintWords Go.Proofs.YtakcjiinchghaaaGreatDoorW.PrintLast PRW
structure ETab (w : World) : Prop where
 pow : Tab w
 deB : TabD w
theorem ETab.below {w w' : World} (h : ETab w) (hb : Below w.heap.size w w') : ETab w':=⟨h.pow.below hb,Lib.tabBelow_of_tabIs h.deB w' hb⟩
theorem tab_at {w0 W : World} (h : ETab w0) (hb : Below w0.heap.size w0 W) : ETab W:=h.below hb
theorem tab_drew {w0 : World} (h : ETab w0) : ETab w0.drew:=h.below (Below.refl _ _).drew
theorem tab_drewN {w0 : World} {n : Nat} (h : ETab w0) : ETab (w0.drewN n):=h.below (below_drewN (Below.refl _ _) n)
def xJoin.f (xs : List ByteArray) (sep : ByteArray) : Option ByteArray :=
 if xs.length ≤ 140737488355328 ∧ (Lib.join (xs.map (·.data.toList)) sep.data.toList).length ≤ 140737488355328 then some ⟨(Lib.join (xs.map (·.data.toList)) sep.data.toList).toArray⟩ else none
theorem xJoin.calls (A0 : Option Addr) (c0 : Nat) (l0 : List ByteArray) (sep r : ByteArray) (w : World) (hr0 : Kd.C Kd.string w A0 l0.length l0) (hc0 : l0.length ≤ c0) (h : xJoin.f l0 sep = some r) :
  Calls Tryz.prog 52 #[.slice A0 l0.length c0,.string sep] w fun e w'=>e = .returned (.string r) ∧ Below w.heap.size w w':=by
 unfold xJoin.f at h
 split at h
 ·rename_i hc
  cases Option.some.inj h
  obtain ⟨h1,h2,h3⟩:=hr0
  match l0,hc,h3,hc0 with
  | [],_,_,_ =>
   refine (Tryz.strings_Join_none A0 c0 sep w).mono ?_
   rintro e w' ⟨rfl,rfl⟩
   exact ⟨rfl,Below.refl _ _⟩
  | x :: t,hc,h3,hc0 =>
   obtain ⟨ad,rfl,hcells⟩:=h3 (by simp)
   have cell : ∀ (j : Nat) y,(x :: t)[j]? = some y → w.cell? (ad.add j) = some (.string y):=by
    intro j y hy
    obtain ⟨c,hl,hK,hcl⟩:=hcells j y hy
    have hK' : c = [.string y]:=hK
    subst hK'
    have:=hcl 0 (.string y) rfl
    simpa [show Kd.string.sz = 1 from rfl] using this
   have hsp : ad.spot = none:=by
    have h0:=cell 0 x rfl
    simp only [Addr.add,if_true] at h0
    unfold World.cell? at h0
    cases hh : ad.spot with
    | none=>rfl
    | some k =>
     rw [hh] at h0
     split at h0 <;> simp at h0
   obtain ⟨bk,o,spt⟩:=ad
   simp only at hsp
   subst hsp
   have cell2 : ∀ (j : Nat) y,(x :: t)[j]? = some y → w.cell? ⟨bk,o + j,none⟩ = some (.string y):=by
    intro j y hy
    have:=cell j y hy
    unfold Addr.add at this
    split at this
    ·subst_vars;simpa using this
    ·exact this
   exact Tryz.strings_Join bk o c0 (x :: t) sep w cell2 (World.block_lt_of_cell? w _ (cell2 0 x rfl)) hc.1 hc0 hc.2
 ·cases h
end Go.Proofs.YtakcjiinchghaaaGreatDoor
end
section
namespace Go.Proofs.YtakcjiinchghaaaGreatDoor
set_option linter.unusedVariables false
set_option linter.unusedSimpArgs false
open Go.RowKit Go.Proofs.YtakcjiinchghaaaGreatDoorW.PrintWords Go.Proofs.YtakcjiinchghaaaGreatDoorW.PrintLast PRW
/-- how many values a step takes; -1: there is no such step -/
def takesE (w : Int) (d : S41) : Int :=
 if (d.f0 = 1 ∧ soundV d.f2.f0 d.f2.f1 d.f2.f2 d.f2.f3 = true) ∨ (d.f0 = 2 ∧ 0 ≤ d.f1 ∧ d.f1 < w) then 0
 else if (3 ≤ d.f0 ∧ d.f0 ≤ 5) ∨ (d.f0 = 6 ∧ 1 ≤ d.f1 ∧ d.f1 ≤ 4) then 1
 else if 10 ≤ d.f0 ∧ d.f0 ≤ 24 then 2 else -1
theorem takes_ok (w : Int) : TkOk (fun d : S41=>d.f0) (takesE w):=fun d=>by
 unfold takesE
 split
 ·rename_i h;right;left;exact ⟨rfl,by show d.f0 < 3;rcases h with h | h <;> omega⟩
 ·split
  ·rename_i h;right;right;left;exact ⟨rfl,by show 3 ≤ d.f0;rcases h with h | h <;> omega,by show d.f0 < 10;rcases h with h | h <;> omega⟩
  ·split
   ·rename_i h;right;right;right;exact ⟨rfl,h.1⟩
   ·left;omega
/-- whether these steps are an expression over rows of so many values -/
def soundE (e : List S41) (w : Int) : Bool:=decide (e.length ≤ 4000) && decide (mh (takesE w) e 0 = some 1)
/-- a value, or why there is none -/
structure Cel where
 v : S29
 e : Int
def zV : S29:=⟨0,0,0,⟨#[]⟩⟩
def celR (x : V × Int) : Cel:=⟨⟨x.1.k,x.1.n,x.1.f,x.1.t⟩,x.2⟩
def leastE (a b : Int) : Int:=if a = 0 ∨ b = 0 then a + b else min a b
def noneC (r : List S29) (d : S41) : Cel:=⟨if d.f0 = 2 then rd_T29 r d.f1 else d.f2,0⟩
def oneC (d : S41) (a : Cel) : Cel:=if a.e ≠ 0 then a else celR (resV (oneS d.f0 d.f1 a.v.f0 a.v.f1 a.v.f2 a.v.f3))
def twoC (d : S41) (a b : Cel) : Cel:=if leastE a.e b.e ≠ 0 then ⟨zV,leastE a.e b.e⟩ else celR (resV (twoS d.f0 a.v.f0 a.v.f1 a.v.f2 a.v.f3 b.v.f0 b.v.f1 b.v.f2 b.v.f3))
def runC (r : List S29) (e : List S41) (st : List Cel) : List Cel:=mrun (fun d=>d.f0) (noneC r) oneC twoC e st
/-- an expression's value for a row -/
def evalE (e : List S41) (r : List S29) : Cel :=
 if soundL r && soundE e r.length then (runC r e []).headD ⟨zV,0⟩ else ⟨zV,1⟩
theorem soundE_iff {e : List S41} {w : Int} : soundE e w = true ↔ e.length ≤ 4000 ∧ mh (takesE w) e 0 = some 1:=by
 unfold soundE;simp
theorem runC_one {e : List S41} {w : Int} (r : List S29) (h : soundE e w = true) : ∃ x,runC r e [] = [x] ∧ ∀ s,runC r e s = x :: s :=
 mrun_one (takes_ok w) (soundE_iff.1 h).2
/-- a step over other columns -/
def mvD (tos : List Int) (d : S41) : S41:=if d.f0 = 2 then ⟨d.f0,rd tos d.f1,d.f2⟩ else d
theorem mvD_not (tos : List Int) (d : S41) (h : d.f0 ≠ 2) : mvD tos d = d:=if_neg h
end Go.Proofs.YtakcjiinchghaaaGreatDoor
end
section
namespace Go.Proofs.YtakcjiinchghaaaGreatDoor
set_option linter.unusedVariables false
set_option linter.unusedSimpArgs false
open Go.RowKit Go.Proofs.YtakcjiinchghaaaGreatDoorW.PrintWords Go.Proofs.YtakcjiinchghaaaGreatDoorW.PrintLast PRW
/-- a type; no type at all, if it is bad; risk: a step may fail -/
structure Knd where
 of_ : Int
 null : Bool
 bad : Bool
 risk : Bool
def kNone (cols : List S57) (d : S41) : Knd :=
 if d.f0 = 1 then ⟨d.f2.f0,decide (d.f2.f0 = 0),false,false⟩
 else ⟨(rd_T57 cols d.f1).f1,(rd_T57 cols d.f1).f2,decide ((rd_T57 cols d.f1).f1 < 1) || decide (4 < (rd_T57 cols d.f1).f1),false⟩
def kOne (d : S41) (a : Knd) : Knd :=
 if d.f0 = 3 then ⟨a.of_,a.null,a.bad || decide (a.of_ = 1) || decide (a.of_ = 4),a.risk || decide (a.of_ = 2)⟩
 else if d.f0 = 4 then ⟨1,a.null,a.bad || decide (1 < a.of_),a.risk⟩
 else if d.f0 = 5 then ⟨1,false,a.bad,a.risk⟩
 else if d.f0 = 6 then ⟨d.f1,a.null,a.bad || !(decide (a.of_ = 0) || decide (a.of_ = d.f1) || (decide (d.f1 = 4) && (decide (a.of_ = 2) || decide (a.of_ = 1))) || (decide (d.f1 = 3) && decide (a.of_ = 2)) || (decide (d.f1 = 2) && decide (a.of_ = 3))),a.risk || (decide (d.f1 = 2) && decide (a.of_ = 3))⟩
 else a
def unlikeE (a b : Knd) : Bool:=decide (a.of_ ≠ 0) && decide (b.of_ ≠ 0) && decide (a.of_ ≠ b.of_)
def kTwo (d : S41) (a b : Knd) : Knd :=
 if d.f0 = 22 ∨ d.f0 = 23 then ⟨1,a.null || b.null,a.bad || b.bad || decide (1 < max a.of_ b.of_),a.risk || b.risk⟩
 else if d.f0 = 24 then ⟨max a.of_ b.of_,a.null && b.null,a.bad || b.bad || unlikeE a b,a.risk || b.risk⟩
 else if 16 ≤ d.f0 then ⟨1,a.null || b.null,a.bad || b.bad || unlikeE a b,a.risk || b.risk⟩
 else if d.f0 = 15 then ⟨max a.of_ b.of_,a.null || b.null,a.bad || b.bad || (decide (max a.of_ b.of_ ≠ 0) && decide (max a.of_ b.of_ ≠ 4)) || unlikeE a b,a.risk || b.risk || decide (max a.of_ b.of_ = 4)⟩
 else ⟨max a.of_ b.of_,a.null || b.null,a.bad || b.bad || decide (max a.of_ b.of_ = 1) || decide (max a.of_ b.of_ = 4) || (decide (d.f0 = 14) && decide (max a.of_ b.of_ = 3)) || unlikeE a b,a.risk || b.risk || decide (max a.of_ b.of_ = 2)⟩
def typedE (e : List S41) (cols : List S57) : Knd :=
 if soundE e cols.length then (mrun (fun d=>d.f0) (kNone cols) kOne kTwo e []).headD ⟨0,false,true,false⟩ else ⟨0,false,true,false⟩
def typeE (e : List S41) (cols : List S57) : Int × Bool × Bool:=if (typedE e cols).bad then (0,false,false) else ((typedE e cols).of_,(typedE e cols).null,true)
def safeE (e : List S41) (cols : List S57) : Bool:=!(typedE e cols).bad && !(typedE e cols).risk
end Go.Proofs.YtakcjiinchghaaaGreatDoor
end
section
namespace Go.Proofs.YtakcjiinchghaaaGreatDoor
set_option linter.unusedVariables false
set_option linter.unusedSimpArgs false
open Go.RowKit Go.Proofs.YtakcjiinchghaaaGreatDoorW.PrintWords Go.Proofs.YtakcjiinchghaaaGreatDoorW.PrintLast PRW
/-- a cell's five words -/
def kCel : Kd Cel:=Kd.iso (Kd.pair (Kd.int .i64) (Kd.pair (Kd.int .i64) (Kd.pair (Kd.int .u64) (Kd.pair Kd.string (Kd.int .i64))))) (fun x : Cel=>(x.v.f0,x.v.f1,x.v.f2,x.v.f3,x.e))
def celW (x : Cel) : List Value:=[.int .i64 x.v.f0,.int .i64 x.v.f1,.int .u64 x.v.f2,.string x.v.f3,.int .i64 x.e]
theorem kCel_open {w : World} {x : Cel} {cs : List Value} (h : kCel.K w x cs) : cs = celW x:=by
 obtain ⟨_,_,rfl,rfl,⟨_,_,rfl,rfl,⟨_,_,rfl,rfl,⟨_,_,rfl,rfl,rfl⟩⟩⟩⟩:=h
 exact rfl
theorem kCel_mkM (w : World) (base : Nat) (ok : Nat → Prop) (x : Cel) : kCel.M w base ok x (celW x):=⟨[.int .i64 x.v.f0],_,rfl,rfl,⟨[.int .i64 x.v.f1],_,rfl,rfl,⟨[.int .u64 x.v.f2],_,rfl,rfl,⟨[.string x.v.f3],[.int .i64 x.e],rfl,rfl,rfl⟩⟩⟩⟩
theorem infoC : (Tryz.prog.info? 60).map (fun i=>(i.zero,i.size,i.bytes)) = some (some (.agg #[.int .i64 0,.int .i64 0,.int .u64 0,.string ⟨#[]⟩,.int .i64 0]),5,48):=by kernel_rfl
/-- the stack in block b: what stands on it, the top last; nothing below b has changed since w0 -/
structure Stk (b : Nat) (w0 : World) (l : List Cel) (W : World) : Prop where
 row : ∃ v,W.cell? ⟨b,0,none⟩ = some v ∧ Kd.R kCel 60 W (b + 1) (fun k=>b + 1 ≤ k) v l
 frz : W.frozen? ⟨b,0,none⟩ = false
 bel : Below b w0 W
 lt : b < W.heap.size
theorem stk_set {b : Nat} {w0 w1 : World} {l : List Cel} {v u : Value} (hR : Kd.R kCel 60 w1 (b + 1) (fun k=>b + 1 ≤ k) v l) (hB : Below b w0 w1) (hlt : b < w1.heap.size) (hc : w1.cell? ⟨b,0,none⟩ = some u) (hf : w1.frozen? ⟨b,0,none⟩ = false) : Stk b w0 l (w1.setCell ⟨b,0,none⟩ v):=by
 refine ⟨⟨v,by simp [go_sem,hc],Kd.R_far (p:=⟨b,0,none⟩) hR (fun k hk=>by show k ≠ b;omega) v⟩,by simp [go_sem,hf],hB.setCell (Nat.le_refl _) _,by simpa using hlt⟩
set_option maxRecDepth 100000 in
set_option maxHeartbeats 4000000 in
theorem push_c (b : Nat) (w0 : World) (l : List Cel) (x : Cel) (W : World) (h : Stk b w0 l W) (hl : l.length ≤ 4000) :
  Calls Tryz.prog 64 #[.pointer (some ⟨b,0,none⟩),.agg #[.int .i64 x.v.f0,.int .i64 x.v.f1,.int .u64 x.v.f2,.string x.v.f3,.int .i64 x.e]] W fun e w'=>e = .returned (.tuple #[]) ∧ Stk b w0 (l ++ [x]) w':=by
 obtain ⟨v,c0,hR⟩:=h.row
 have f0:=h.frz
 have hlt:=h.lt
 obtain ⟨A,c,rfl,hle,hC⟩:=Kd.R_reads hR
 have HB:=hidF h.bel
 obtain ⟨W1,hW1⟩ : ∃ W1,W.alloc (.cells #[.int .i64 x.v.f0,.int .i64 x.v.f1,.int .u64 x.v.f2,.string x.v.f3,.int .i64 x.e] 60) = W1:=⟨_,rfl⟩
 obtain ⟨xb,hxb⟩ : ∃ xb,W.heap.size = xb:=⟨_,rfl⟩
 have hz1 : W1.heap.size = xb + 1:=by rw [← hW1,← hxb];simp
 have k0 : W1.cell? ⟨b,0,none⟩ = some (.slice A l.length c):=by rw [← hW1];exact ((below_box W _).cell (p:=⟨b,0,none⟩) hlt).trans c0
 have g0 : W1.frozen? ⟨b,0,none⟩ = false:=by rw [← hW1];exact ((below_box W _).frozen (p:=⟨b,0,none⟩) hlt).trans f0
 have x0 : W1.cell? ⟨xb,0,none⟩ = some (.int .i64 x.v.f0):=by rw [← hW1,← hxb];exact (blk_cell (heap_alloc_new _ _) 0).trans rfl
 have x1 : W1.cell? ⟨xb,1,none⟩ = some (.int .i64 x.v.f1):=by rw [← hW1,← hxb];exact (blk_cell (heap_alloc_new _ _) 1).trans rfl
 have x2 : W1.cell? ⟨xb,2,none⟩ = some (.int .u64 x.v.f2):=by rw [← hW1,← hxb];exact (blk_cell (heap_alloc_new _ _) 2).trans rfl
 have x3 : W1.cell? ⟨xb,3,none⟩ = some (.string x.v.f3):=by rw [← hW1,← hxb];exact (blk_cell (heap_alloc_new _ _) 3).trans rfl
 have x4 : W1.cell? ⟨xb,4,none⟩ = some (.int .i64 x.e):=by rw [← hW1,← hxb];exact (blk_cell (heap_alloc_new _ _) 4).trans rfl
 have HR:=hidF (show Kd.R kCel 60 W1 (b + 1) (fun k=>b + 1 ≤ k) (.slice A l.length c) l by rw [← hW1];exact Kd.R_alloc hR _)
 have hne : (Value.slice A l.length c).ownBlock ≠ some xb:=fun e=>by have:=Kd.R_lt hR xb e;omega
 have HNE:=hidF hne
 have HB1:=hidF (show Below b w0 W1 by rw [← hW1];exact HB.out.alloc (by omega) _)
 have hbx : b < xb:=by omega
 have HZ1:=hidF hz1
 have hxz : xb < W1.heap.size:=by omega
 have hbz : b < W1.heap.size:=by omega
 go_enter Tryz.func64,Tryz.ntmps64
 go_wp2_with fail
 clear h hR hC hW1 hxb hz1 HB c0 f0 hlt hne
 go_region_law (refine Kd.R_append_step kCel (w0:=W1) (W:=W1.drew) (b + 1) ?hw (.tmp 7) (.tmp 9) 93 60 (.agg #[.int .i64 0,.int .i64 0,.int .u64 0,.string ⟨#[]⟩,.int .i64 0]) 48 ?ho Tryz.underlying93 infoC rfl (by decide) (by omega) (.slice A l.length c) l x [.int .i64 x.v.f0,.int .i64 x.v.f1,.int .u64 x.v.f2,.string x.v.f3,.int .i64 x.e] (fun k=>b + 1 ≤ k) (fun _=>False) ?hs ?hx (kCel_mkM _ _ _ x) (fun _ hk=>hk.elim) ?hf ?hO ?hB ?hb ?hl ?_;(case hw=>rfl);(case ho=>rfl);(case hs=>rfl);(case hx=>rfl);(case hf=>(intro k hk;simp at hk;omega));(case hO=>((with_reducible repeat (first | apply Kd.R_alloc | apply Kd.R_drewN | apply Kd.R_drew));exact HR.out));(case hB=>(repeat (first | exact Below.refl _ _ | refine Below.alloc ?_ (by simp;omega) _ | refine below_drewN ?_ _ | refine Below.drew ?_)));(case hb=>(simp;omega));(case hl=>omega);intro v1 w1 ho hb hg hat;obtain ⟨A1,c1,e1_⟩:=Kd.R_slice ho;subst e1_;have HO:=hidF ho;have HB2:=hidF hb;have g1:=(hb.frozen (p:=⟨b,0,none⟩) (by simp)).trans g0;have k1:=(hb.cell (p:=⟨b,0,none⟩) (by simp)).trans k0;have hzb : b < w1.heap.size:=Nat.lt_of_lt_of_le hbz hb.size;have y0:=(hg.cell_far ⟨xb,0,none⟩ hxz (Ne.symm HNE.out)).trans x0;have y1:=(hg.cell_far ⟨xb,1,none⟩ hxz (Ne.symm HNE.out)).trans x1;have y2:=(hg.cell_far ⟨xb,2,none⟩ hxz (Ne.symm HNE.out)).trans x2;have y3:=(hg.cell_far ⟨xb,3,none⟩ hxz (Ne.symm HNE.out)).trans x3;have y4:=(hg.cell_far ⟨xb,4,none⟩ hxz (Ne.symm HNE.out)).trans x4;clear ho hb hg hat)
 all_goals exact bodyPost_end (v:=.tuple #[]) (by simp [results,Tryz.results64,go_sem]) rfl ⟨rfl,by have:=stk_set HO.out (HB1.out.trans (HB2.out.mono (Nat.le_succ _))) hzb k1 g1;simpa using this⟩
theorem at_Cel {w : World} {A : Option Addr} {n : Nat} {xs : List Cel} (h : Kd.C kCel w A n xs) (i : Nat) (x : Cel) (hx : xs[i]? = some x) : ∃ ad,A = some ad ∧ w.cell? (ad.add (i * 5)) = some (.int .i64 x.v.f0) ∧ w.cell? ⟨(ad.add (i * 5)).block,(ad.add (i * 5)).off + 1,none⟩ = some (.int .i64 x.v.f1) ∧ w.cell? ⟨(ad.add (i * 5)).block,(ad.add (i * 5)).off + 2,none⟩ = some (.int .u64 x.v.f2) ∧ w.cell? ⟨(ad.add (i * 5)).block,(ad.add (i * 5)).off + 3,none⟩ = some (.string x.v.f3) ∧ w.cell? ⟨(ad.add (i * 5)).block,(ad.add (i * 5)).off + 4,none⟩ = some (.int .i64 x.e):=by
 obtain ⟨h1,_,h3⟩:=h
 have hi : i < xs.length:=(List.getElem?_eq_some_iff.1 hx).1
 obtain ⟨ad,rfl,hc⟩:=h3 (by omega)
 obtain ⟨cs,_,hK,hcell⟩:=hc i x hx
 obtain rfl:=kCel_open hK
 refine ⟨ad,rfl,hcell 0 _ rfl, ?_, ?_, ?_, ?_⟩
 ·rw [← add_field _ _ 1 (by omega)];exact hcell 1 _ rfl
 ·rw [← add_field _ _ 2 (by omega)];exact hcell 2 _ rfl
 ·rw [← add_field _ _ 3 (by omega)];exact hcell 3 _ rfl
 ·rw [← add_field _ _ 4 (by omega)];exact hcell 4 _ rfl
theorem Stk.al {b : Nat} {w0 W : World} {l : List Cel} (h : Stk b w0 l W) (o : Obj) : Stk b w0 l (W.alloc o):=by
 obtain ⟨⟨v,c0,hR⟩,hf,hB,hlt⟩:=h
 exact ⟨⟨v,((below_box W o).cell (p:=⟨b,0,none⟩) hlt).trans c0,Kd.R_alloc hR _⟩,((below_box W o).frozen (p:=⟨b,0,none⟩) hlt).trans hf,hB.alloc (Nat.le_of_lt hlt) _,Nat.lt_of_lt_of_le hlt (below_box W o).size⟩
theorem Stk.bl {b : Nat} {w0 W W' : World} {l : List Cel} (h : Stk b w0 l W) (k : Below W.heap.size W W') : Stk b w0 l W':=by
 obtain ⟨⟨v,c0,hR⟩,hf,hB,hlt⟩:=h
 exact ⟨⟨v,(k.cell (p:=⟨b,0,none⟩) hlt).trans c0,Kd.R_below hR k⟩,(k.frozen (p:=⟨b,0,none⟩) hlt).trans hf,hB.trans (k.mono (Nat.le_of_lt hlt)),Nat.lt_of_lt_of_le hlt k.size⟩
/-- what was there is as it was, but the block b -/
structure Sm (b : Nat) (W w' : World) : Prop where
 heap : ∀ k,k < W.heap.size → k ≠ b → w'.heap[k]? = W.heap[k]?
 size : W.heap.size ≤ w'.heap.size
theorem Sm.cell {b : Nat} {W w' : World} (h : Sm b W w') {k : Nat} (hk : k < W.heap.size) (hb : k ≠ b) (o : Nat) : w'.cell? ⟨k,o,none⟩ = W.cell? ⟨k,o,none⟩:=World.cell?_of_block (w:=W) (h.heap k hk hb)
theorem Sm.put (b : Nat) (W : World) (v : Value) : Sm b W (W.setCell ⟨b,0,none⟩ v):=⟨fun k _ hb=>Below.heap_setCell W ⟨b,0,none⟩ v k hb,by simp⟩
theorem Sm.al {b : Nat} {W w : World} (h : Sm b W w) (o : Obj) : Sm b W (w.alloc o):=⟨fun k hk hb=>((below_box w o).block k (Nat.lt_of_lt_of_le hk h.size)).trans (h.heap k hk hb),Nat.le_trans h.size (below_box w o).size⟩
set_option maxRecDepth 100000 in
set_option maxHeartbeats 4000000 in
theorem pop_c (b : Nat) (w0 : World) (l : List Cel) (x : Cel) (W : World) (h : Stk b w0 (l ++ [x]) W) (hl : l.length ≤ 4000) :
  Calls Tryz.prog 63 #[.pointer (some ⟨b,0,none⟩)] W fun e w'=>e = .returned (.agg #[.int .i64 x.v.f0,.int .i64 x.v.f1,.int .u64 x.v.f2,.string x.v.f3,.int .i64 x.e]) ∧ Stk b w0 l w' ∧ Sm b W w':=by
 obtain ⟨v,c0,hR⟩:=h.row
 have f0:=h.frz
 have hlt:=h.lt
 obtain ⟨A,c,rfl,hle,hC⟩:=Kd.R_reads hR
 have hR2:=Kd.R_take (m:=l.length) hR (by simp)
 rw [List.take_left] at hR2
 have HS:=hidF (stk_set hR2 h.bel hlt c0 f0)
 obtain ⟨ad,rfl,k0,k1,k2,k3,k4⟩:=at_Cel hC l.length x (by simp)
 have hn : (l ++ [x]).length = l.length + 1:=by simp
 rw [hn] at c0
 have i1 : IntKind.i64.wrap (((l.length + 1 : Nat) : Int) - 1) = (l.length : Int):=by rw [IntKind.wrap_i64];omega
 have i2 : (((l.length + 1 : Nat) : Int) - 1) = (l.length : Int):=by omega
 have bk : (ad.add (l.length * 5)).block < W.heap.size:=World.block_lt_of_cell? W _ k0
 have n1 : ¬ (ad.add (l.length * 5)).block = W.heap.size:=by omega
 have n1' : ¬ W.heap.size = (ad.add (l.length * 5)).block:=by omega
 have n2 : ¬ b = W.heap.size:=by omega
 have n2' : ¬ W.heap.size = b:=by omega
 have hle2 : l.length ≤ c:=by simp at hle;omega
 clear h hR hR2 hC hle hn
 go_enter Tryz.func63,Tryz.ntmps63
 go_wp2
 exact bodyPost_ret (v:=.agg #[.int .i64 x.v.f0,.int .i64 x.v.f1,.int .u64 x.v.f2,.string x.v.f3,.int .i64 x.e]) (by simp [results,Tryz.results63,go_sem]) rfl ⟨rfl,(HS.out.al _).al _,((Sm.put _ _ _).al _).al _⟩
end Go.Proofs.YtakcjiinchghaaaGreatDoor
end
section
namespace Go.Proofs.YtakcjiinchghaaaGreatDoor
set_option linter.unusedVariables false
set_option linter.unusedSimpArgs false
open Go.RowKit Go.Proofs.YtakcjiinchghaaaGreatDoorW.PrintWords Go.Proofs.YtakcjiinchghaaaGreatDoorW.PrintLast PRW
def celA (x : Cel) : Value:=.agg #[.int .i64 x.v.f0,.int .i64 x.v.f1,.int .u64 x.v.f2,.string x.v.f3,.int .i64 x.e]
/-- numbers such as the machine has -/
def GoodC (x : Cel) : Prop:=I64 x.v.f1 ∧ (x.e = 0 ∨ x.e = 1 ∨ x.e = 10 ∨ x.e = 11 ∨ x.e = 12)
theorem good_res {r : Except Int V} {l : List Int} (h : Cl l r) (hl : ∀ c ∈ l,c = 0 ∨ c = 1 ∨ c = 10 ∨ c = 11 ∨ c = 12) : GoodC (celR (resV r)):=by
 cases r with
 | ok v=>exact ⟨h.2,.inl rfl⟩
 | error c=>exact ⟨i64_0,hl c h⟩
theorem good_one (d : S41) (a : Cel) (h : GoodC a) : GoodC (oneC d a):=by
 unfold oneC
 split
 ·exact h
 ·exact good_res (oneS_cl d.f0 d.f1 a.v.f0 a.v.f1 a.v.f2 a.v.f3 h.1) (fun c hc=>by simp at hc;omega)
theorem good_least {a b : Int} (ha : a = 0 ∨ a = 1 ∨ a = 10 ∨ a = 11 ∨ a = 12) (hb : b = 0 ∨ b = 1 ∨ b = 10 ∨ b = 11 ∨ b = 12) : leastE a b = 0 ∨ leastE a b = 1 ∨ leastE a b = 10 ∨ leastE a b = 11 ∨ leastE a b = 12:=by
 unfold leastE;split <;> omega
theorem good_two (d : S41) (a b : Cel) (h : GoodC a) (h' : GoodC b) : GoodC (twoC d a b):=by
 unfold twoC
 split
 ·exact ⟨i64_0,good_least h.2 h'.2⟩
 ·exact good_res (twoS_cl d.f0 a.v.f0 a.v.f1 a.v.f2 a.v.f3 b.v.f0 b.v.f1 b.v.f2 b.v.f3 h.1 h'.1) (fun c hc=>by simp at hc;omega)
set_option maxRecDepth 100000 in
theorem least_c (a b : Int) (w : World) (ha : a = 0 ∨ a = 1 ∨ a = 10 ∨ a = 11 ∨ a = 12) (hb : b = 0 ∨ b = 1 ∨ b = 10 ∨ b = 11 ∨ b = 12) : Calls Tryz.prog 35 #[.int .i64 a,.int .i64 b] w fun e w'=>e = .returned (.int .i64 (leastE a b)) ∧ w = w':=by
 rcases ha with rfl | rfl | rfl | rfl | rfl <;> rcases hb with rfl | rfl | rfl | rfl | rfl
 all_goals
  go_enter Tryz.func35,Tryz.ntmps35
  go_wp2
  go_ret
  exact ⟨by kernel_rfl,rfl⟩
set_option maxRecDepth 100000 in
set_option maxHeartbeats 4000000 in
/-- Eval's first function: the value of a step that takes nothing -/
theorem eval1_c (rb : Nat) (A : Option Addr) (c : Nat) (r : List S29) (d : S41) (w : World) (hp : w.cell? ⟨rb,0,none⟩ = some (.slice A r.length c)) (hC : Kd.C k29 w A r.length r) (hd : d.f0 = 2 → 0 ≤ d.f1 ∧ d.f1 < r.length) :
  Calls Tryz.prog 31 #[.agg #[.int .i64 d.f0,.int .i64 d.f1,.int .i64 d.f2.f0,.int .i64 d.f2.f1,.int .u64 d.f2.f2,.string d.f2.f3],.pointer (some ⟨rb,0,none⟩)] w fun e w'=>e = .returned (celA (noneC r d)) ∧ Below w.heap.size w w':=by
 have hlt:=World.block_lt_of_cell? w _ hp
 by_cases h2 : d.f0 = 2
 ·obtain ⟨h0,h1⟩:=hd h2
  obtain ⟨ad,rfl,k0,k1,k2,k3⟩:=at_T29 hC d.f1 h0 h1
  have bk:=World.block_lt_of_cell? w _ k0
  have n1 : ¬ (ad.add (d.f1.toNat * 4)).block = w.heap.size:=by omega
  have n1' : ¬ w.heap.size = (ad.add (d.f1.toNat * 4)).block:=by omega
  have hr : noneC r d = ⟨rd_T29 r d.f1,0⟩:=by unfold noneC;rw [if_pos h2]
  rw [hr]
  generalize rd_T29 r d.f1 = y at *
  have e2 : (d.f0 == 2) = true:=beq_iff_eq.2 h2
  obtain ⟨y0,y1,y2,y3⟩:=y
  simp only at k0 k1 k2 k3
  clear hr h2 hd hC
  go_enter Tryz.func31,Tryz.ntmps31
  go_wp2
  exact bodyPost_ret (v:=.agg #[.int .i64 y0,.int .i64 y1,.int .u64 y2,.string y3,.int .i64 0]) (by simp [results,Tryz.results31,go_sem]) rfl ⟨rfl,(by repeat (first | (with_reducible exact Below.refl _ _) | (with_reducible refine below_al ?_ _) | (with_reducible refine below_drewN ?_ _) | (with_reducible refine Below.drew ?_) | (with_reducible refine below_via (by assumption) ?_) | (with_reducible refine below_sc ?_ ?_ _;· (first | (simp;done) | (simp;omega) | omega))))⟩
 ·have hr : noneC r d = ⟨d.f2,0⟩:=by unfold noneC;rw [if_neg h2]
  rw [hr]
  have e2 : (d.f0 == 2) = false:=beq_eq_false_iff_ne.2 h2
  clear hr h2 hd hC
  go_enter Tryz.func31,Tryz.ntmps31
  go_wp2
  exact bodyPost_ret (v:=.agg #[.int .i64 d.f2.f0,.int .i64 d.f2.f1,.int .u64 d.f2.f2,.string d.f2.f3,.int .i64 0]) (by simp [results,Tryz.results31,go_sem]) rfl ⟨rfl,(by repeat (first | (with_reducible exact Below.refl _ _) | (with_reducible refine below_al ?_ _) | (with_reducible refine below_drewN ?_ _) | (with_reducible refine Below.drew ?_) | (with_reducible refine below_via (by assumption) ?_) | (with_reducible refine below_sc ?_ ?_ _;· (first | (simp;done) | (simp;omega) | omega))))⟩
set_option maxRecDepth 100000 in
set_option maxHeartbeats 4000000 in
/-- Eval's second function: a step of one value -/
theorem eval2_c (d : S41) (a : Cel) (w : World) (ht : Tab w) (hg : GoodC a) :
  Calls Tryz.prog 32 #[.agg #[.int .i64 d.f0,.int .i64 d.f1,.int .i64 d.f2.f0,.int .i64 d.f2.f1,.int .u64 d.f2.f2,.string d.f2.f3],.agg #[.int .i64 a.v.f0,.int .i64 a.v.f1,.int .u64 a.v.f2,.string a.v.f3,.int .i64 a.e]] w fun e w'=>e = .returned (celA (oneC d a)) ∧ Below w.heap.size w w':=by
 obtain ⟨⟨v0,v1,v2,v3⟩,ae⟩:=a
 by_cases h0 : ae = 0
 ·have hr : oneC d ⟨⟨v0,v1,v2,v3⟩,ae⟩ = celR (resV (oneS d.f0 d.f1 v0 v1 v2 v3)):=if_neg (by simpa using h0)
  rw [hr]
  subst h0
  have ho:=fun W2 (hb : Below w.heap.size w W2)=>oneD_c d.f0 d.f1 v0 v1 v2 v3 W2 hg.1 (ht.below hb)
  unfold OutD at ho
  generalize resV (oneS d.f0 d.f1 v0 v1 v2 v3) = P at ho ⊢
  obtain ⟨⟨rk,rn,rf,rt⟩,re⟩:=P
  have HO:=hidF ho
  clear hr ho ht hg
  go_enter Tryz.func32,Tryz.ntmps32
  go_wp2_with (first | (go_at_call 33;(fail_if_success (have:=w1));((with_reducible refine (HO.out _ (by repeat (first | (with_reducible exact Below.refl _ _) | (with_reducible refine below_al ?_ _) | (with_reducible refine below_drewN ?_ _) | (with_reducible refine Below.drew ?_) | (with_reducible refine below_via (by assumption) ?_) | (with_reducible refine below_sc ?_ ?_ _;· (first | (simp;done) | (simp;omega) | omega))))).mono ?_);rintro e w1 ⟨rfl,hb1⟩;(try (replace hb1:=below_undrew hb1));(try (replace hb1:=below_undrewN hb1));obtain ⟨hc1,hf1⟩:=bcell hb1;(try (have hz0_1 : w.heap.size < w1.heap.size:=(by have:=hb1.size;(try simp at this);omega)));(try (have hz1_1 : w.heap.size + 1 < w1.heap.size:=(by have:=hb1.size;(try simp at this);omega)));(try (have hz2_1 : w.heap.size + 2 < w1.heap.size:=(by have:=hb1.size;(try simp at this);omega))))))
  exact bodyPost_ret (v:=.agg #[.int .i64 rk,.int .i64 rn,.int .u64 rf,.string rt,.int .i64 re]) (by simp [results,Tryz.results32,go_sem, *]) rfl ⟨rfl,(by repeat (first | (with_reducible exact Below.refl _ _) | (with_reducible refine below_al ?_ _) | (with_reducible refine below_drewN ?_ _) | (with_reducible refine Below.drew ?_) | (with_reducible refine below_via (by assumption) ?_) | (with_reducible refine below_sc ?_ ?_ _;· (first | (simp;done) | (simp;omega) | omega))))⟩
 ·have hr : oneC d ⟨⟨v0,v1,v2,v3⟩,ae⟩ = ⟨⟨v0,v1,v2,v3⟩,ae⟩:=if_pos (by simpa using h0)
  rw [hr]
  have e1 : (ae != 0) = true:=bne_iff_ne.2 h0
  have e2 : (ae == 0) = false:=beq_eq_false_iff_ne.2 h0
  clear hr h0
  go_enter Tryz.func32,Tryz.ntmps32
  go_wp2
  exact bodyPost_ret (v:=.agg #[.int .i64 v0,.int .i64 v1,.int .u64 v2,.string v3,.int .i64 ae]) (by simp [results,Tryz.results32,go_sem]) rfl ⟨rfl,(by repeat (first | (with_reducible exact Below.refl _ _) | (with_reducible refine below_al ?_ _) | (with_reducible refine below_drewN ?_ _) | (with_reducible refine Below.drew ?_) | (with_reducible refine below_via (by assumption) ?_) | (with_reducible refine below_sc ?_ ?_ _;· (first | (simp;done) | (simp;omega) | omega))))⟩
set_option maxRecDepth 100000 in
set_option maxHeartbeats 4000000 in
/-- Eval's third function: a step of two values -/
theorem eval3_c (d : S41) (a b : Cel) (w : World) (hg : GoodC a) (hg' : GoodC b) :
  Calls Tryz.prog 34 #[.agg #[.int .i64 d.f0,.int .i64 d.f1,.int .i64 d.f2.f0,.int .i64 d.f2.f1,.int .u64 d.f2.f2,.string d.f2.f3],.agg #[.int .i64 a.v.f0,.int .i64 a.v.f1,.int .u64 a.v.f2,.string a.v.f3,.int .i64 a.e],.agg #[.int .i64 b.v.f0,.int .i64 b.v.f1,.int .u64 b.v.f2,.string b.v.f3,.int .i64 b.e]] w fun e w'=>e = .returned (celA (twoC d a b)) ∧ Below w.heap.size w w':=by
 obtain ⟨⟨v0,v1,v2,v3⟩,ae⟩:=a
 obtain ⟨⟨u0,u1,u2,u3⟩,be⟩:=b
 have HL:=hidF (fun W2=>least_c ae be W2 hg.2 hg'.2)
 by_cases h0 : leastE ae be = 0
 ·have hr : twoC d ⟨⟨v0,v1,v2,v3⟩,ae⟩ ⟨⟨u0,u1,u2,u3⟩,be⟩ = celR (resV (twoS d.f0 v0 v1 v2 v3 u0 u1 u2 u3)):=if_neg (by simpa using h0)
  rw [hr]
  have ho:=fun W2=>twoD_c d.f0 v0 v1 v2 v3 u0 u1 u2 u3 W2 hg.1 hg'.1
  unfold OutD at ho
  generalize resV (twoS d.f0 v0 v1 v2 v3 u0 u1 u2 u3) = P at ho ⊢
  obtain ⟨⟨rk,rn,rf,rt⟩,re⟩:=P
  have HO:=hidF ho
  rw [h0] at HL
  clear hr ho hg hg' h0
  go_enter Tryz.func34,Tryz.ntmps34
  go_wp2_with (first | (go_at_call 35;((with_reducible refine (HL.out _).mono ?_);rintro e w' ⟨rfl,rfl⟩)) | (first | (go_at_call 36;(fail_if_success (have:=w1));((with_reducible refine (HO.out _).mono ?_);rintro e w1 ⟨rfl,hb1⟩;(try (replace hb1:=below_undrew hb1));(try (replace hb1:=below_undrewN hb1));obtain ⟨hc1,hf1⟩:=bcell hb1;(try (have hz0_1 : w.heap.size < w1.heap.size:=(by have:=hb1.size;(try simp at this);omega)));(try (have hz1_1 : w.heap.size + 1 < w1.heap.size:=(by have:=hb1.size;(try simp at this);omega)));(try (have hz2_1 : w.heap.size + 2 < w1.heap.size:=(by have:=hb1.size;(try simp at this);omega)));(try (have hz3_1 : w.heap.size + 3 < w1.heap.size:=(by have:=hb1.size;(try simp at this);omega)))))))
  exact bodyPost_ret (v:=.agg #[.int .i64 rk,.int .i64 rn,.int .u64 rf,.string rt,.int .i64 re]) (by simp [results,Tryz.results34,go_sem, *]) rfl ⟨rfl,(by repeat (first | (with_reducible exact Below.refl _ _) | (with_reducible refine below_al ?_ _) | (with_reducible refine below_drewN ?_ _) | (with_reducible refine Below.drew ?_) | (with_reducible refine below_via (by assumption) ?_) | (with_reducible refine below_sc ?_ ?_ _;· (first | (simp;done) | (simp;omega) | omega))))⟩
 ·have hr : twoC d ⟨⟨v0,v1,v2,v3⟩,ae⟩ ⟨⟨u0,u1,u2,u3⟩,be⟩ = ⟨zV,leastE ae be⟩:=if_pos h0
  rw [hr]
  obtain ⟨m,hm⟩ : ∃ m,leastE ae be = m:=⟨_,rfl⟩
  rw [hm] at h0 HL ⊢
  have e1 : (m != 0) = true:=bne_iff_ne.2 h0
  have e2 : (m == 0) = false:=beq_eq_false_iff_ne.2 h0
  clear hr h0 hm hg hg'
  go_enter Tryz.func34,Tryz.ntmps34
  go_wp2_with (go_at_call 35;((with_reducible refine (HL.out _).mono ?_);rintro e w' ⟨rfl,rfl⟩))
  exact bodyPost_ret (v:=.agg #[.int .i64 0,.int .i64 0,.int .u64 0,.string ⟨#[]⟩,.int .i64 m]) (by simp [results,Tryz.results34,go_sem]) rfl ⟨rfl,(by repeat (first | (with_reducible exact Below.refl _ _) | (with_reducible refine below_al ?_ _) | (with_reducible refine below_drewN ?_ _) | (with_reducible refine Below.drew ?_) | (with_reducible refine below_via (by assumption) ?_) | (with_reducible refine below_sc ?_ ?_ _;· (first | (simp;done) | (simp;omega) | omega))))⟩
end Go.Proofs.YtakcjiinchghaaaGreatDoor
end
section
namespace Go.Proofs.YtakcjiinchghaaaGreatDoor
set_option linter.unusedVariables false
set_option linter.unusedSimpArgs false
open Go.RowKit Go.Proofs.YtakcjiinchghaaaGreatDoorW.PrintWords Go.Proofs.YtakcjiinchghaaaGreatDoorW.PrintLast PRW
theorem mh_le {D : Type} {cod tk : D → Int} (ok : TkOk cod tk) : ∀ (e : List D) (h m : Int),mh tk e h = some m → m ≤ h + e.length
 | [],h,m,hm=>by cases hm;simp
 | d :: e,h,m,hm=>by
  rw [mh] at hm
  split at hm
  ·cases hm
  ·rename_i hn
   have:=mh_le ok e _ _ hm
   have h2:=ok d
   simp only [List.length_cons]
   omega
/-- what stands on the stack ahead of a step -/
theorem sound_at {D T : Type} {cod tk : D → Int} (ok : TkOk cod tk) {n0 : D → T} {n1 : D → T → T} {n2 : D → T → T → T} {e : List D} (h : mh tk e 0 = some 1) (i : Nat) (d : D) (hd : e[i]? = some d) :
    (mrun cod n0 n1 n2 (e.take i) []).length ≤ i ∧ mrun cod n0 n1 n2 (e.take (i + 1)) [] = mstep cod n0 n1 n2 (mrun cod n0 n1 n2 (e.take i) []) d ∧
    ((tk d = 0 ∧ cod d < 3 ∧ mstep cod n0 n1 n2 (mrun cod n0 n1 n2 (e.take i) []) d = n0 d :: mrun cod n0 n1 n2 (e.take i) []) ∨
     (tk d = 1 ∧ 3 ≤ cod d ∧ cod d < 10 ∧ ∃ a t,mrun cod n0 n1 n2 (e.take i) [] = a :: t ∧ mstep cod n0 n1 n2 (mrun cod n0 n1 n2 (e.take i) []) d = n1 d a :: t) ∨
     (tk d = 2 ∧ 10 ≤ cod d ∧ ∃ a b t,mrun cod n0 n1 n2 (e.take i) [] = b :: a :: t ∧ mstep cod n0 n1 n2 (mrun cod n0 n1 n2 (e.take i) []) d = n2 d a b :: t)):=by
  have hi : i < e.length:=(List.getElem?_eq_some_iff.1 hd).1
  have he : e[i] = d:=(List.getElem?_eq_some_iff.1 hd).2
  have hsplit : e = e.take i ++ (d :: e.drop (i + 1)):=by
    rw [← he,← List.drop_eq_getElem_cons hi,List.take_append_drop]
  have htake : e.take (i + 1) = e.take i ++ [d]:=by rw [List.take_succ_eq_append_getElem hi,he]
  obtain ⟨m,hm,hrest⟩ : ∃ m,mh tk (e.take i) 0 = some m ∧ mh tk (d :: e.drop (i + 1)) m = some 1:=by
    rw [hsplit,mh_app] at h
    exact Option.bind_eq_some_iff.1 h
  have hl:=(mrun_frame (n0:=n0) (n1:=n1) (n2:=n2) ok (e.take i) [] [] m hm).2
  have hle:=mh_le ok _ _ _ hm
  rw [List.length_take] at hle
  rw [mh] at hrest
  have hn : ¬ (tk d < 0 ∨ m < tk d):=by
    intro hh;rw [if_pos hh] at hrest;cases hrest
  refine ⟨by omega,by rw [htake,mrun_app];rfl, ?_⟩
  generalize mrun cod n0 n1 n2 (e.take i) [] = s at *
  unfold mstep
  rcases ok d with h1 | ⟨h1,h2⟩ | ⟨h1,h2,h3⟩ | ⟨h1,h2⟩
  · exact absurd (.inl h1) hn
  · exact .inl ⟨h1,h2,by rw [if_neg (by omega),if_neg (by omega)]⟩
  · match s,hl with
    | [],hl=>simp at hl;omega
    | a :: t,_=>exact .inr (.inl ⟨h1,h2,h3,a,t,rfl,by rw [if_neg (by omega),if_pos h2]⟩)
  · match s,hl with
    | [],hl=>simp at hl;omega
    | [a],hl=>simp at hl;omega
    | b :: a :: t,_=>exact .inr (.inr ⟨h1,h2,a,b,t,rfl,by rw [if_pos h2]⟩)
/-- what the three functions of Eval are, in the worlds behind w -/
structure Evs (rb : Nat) (r : List S29) (w : World) : Prop where
 one : ∀ (W : World) (d : S41),Below w.heap.size w W → (d.f0 = 2 → 0 ≤ d.f1 ∧ d.f1 < r.length) → Calls Tryz.prog 31 #[.agg #[.int .i64 d.f0,.int .i64 d.f1,.int .i64 d.f2.f0,.int .i64 d.f2.f1,.int .u64 d.f2.f2,.string d.f2.f3],.pointer (some ⟨rb,0,none⟩)] W fun e w'=>e = .returned (celA (noneC r d)) ∧ Below W.heap.size W w'
 two : ∀ (W : World) (d : S41) (a : Cel),Below w.heap.size w W → GoodC a → Calls Tryz.prog 32 #[.agg #[.int .i64 d.f0,.int .i64 d.f1,.int .i64 d.f2.f0,.int .i64 d.f2.f1,.int .u64 d.f2.f2,.string d.f2.f3],.agg #[.int .i64 a.v.f0,.int .i64 a.v.f1,.int .u64 a.v.f2,.string a.v.f3,.int .i64 a.e]] W fun e w'=>e = .returned (celA (oneC d a)) ∧ Below W.heap.size W w'
 three : ∀ (W : World) (d : S41) (a b : Cel),GoodC a → GoodC b → Calls Tryz.prog 34 #[.agg #[.int .i64 d.f0,.int .i64 d.f1,.int .i64 d.f2.f0,.int .i64 d.f2.f1,.int .u64 d.f2.f2,.string d.f2.f3],.agg #[.int .i64 a.v.f0,.int .i64 a.v.f1,.int .u64 a.v.f2,.string a.v.f3,.int .i64 a.e],.agg #[.int .i64 b.v.f0,.int .i64 b.v.f1,.int .u64 b.v.f2,.string b.v.f3,.int .i64 b.e]] W fun e w'=>e = .returned (celA (twoC d a b)) ∧ Below W.heap.size W w'
def natOfI : Value → Nat
 | .int _ n=>n.toNat
 | _=>0
set_option maxRecDepth 100000 in
set_option maxHeartbeats 8000000 in
theorem runC_c (rb : Nat) (r : List S29) (A : Option Addr) (c : Nat) (e : List S41) (w : World) (hC : Kd.C k41 w A e.length e) (hl : e.length ≤ 4000) (hs : mh (takesE (r.length : Int)) e 0 = some 1)
  (hev : Evs rb r w) (hr : ∀ x ∈ r,I64 x.f1) (hd : ∀ d ∈ e,I64 d.f2.f1) (x : Cel) (hx : runC r e [] = [x]) :
  Calls Tryz.prog 37 #[.slice A e.length c,.func (.func 31) #[] #[.pointer (some ⟨rb,0,none⟩)],.func (.func 32) #[] #[],.func (.func 34) #[] #[]] w fun en w'=>en = .returned (celA x) ∧ Below w.heap.size w w':=by
 have HEV:=hidF hev
 have HC:=hidF hC
 have HS:=hidF hs
 have HX:=hidF hx
 have HRR:=hidF hr
 have HDD:=hidF hd
 clear hev hC hs hx hr hd
 obtain ⟨W0,hW0⟩ : ∃ W0,(w.alloc (.cells #[.int .i64 0,.int .i64 0,.int .u64 0,.string ⟨#[]⟩,.int .i64 0] 60)).alloc (.cells #[.slice none 0 0] 93) = W0:=⟨_,rfl⟩
 obtain ⟨z,hz⟩ : ∃ z,w.heap.size = z:=⟨_,rfl⟩
 obtain ⟨b,hb⟩ : ∃ b,z + 1 = b:=⟨_,rfl⟩
 have HB0:=hidF (show Below w.heap.size w W0 by rw [← hW0];exact (below_box w _).trans ((below_box _ _).mono (by simp)))
 have hsz : W0.heap.size = b + 1:=by rw [← hW0,← hb,← hz];simp
 have hnb : (w.alloc (.cells #[.int .i64 0,.int .i64 0,.int .u64 0,.string ⟨#[]⟩,.int .i64 0] 60)).heap.size = b:=by rw [← hb,← hz];simp
 have HK0 : Hid (Stk b W0 [] W0):=hidF ⟨⟨.slice none 0 0,by rw [← hW0,← hnb];exact (blk_cell (heap_alloc_new _ _) 0).trans rfl,Kd.R_nil _ _ _ _ _⟩,by rw [← hW0,← hnb];exact blk_frozen (heap_alloc_new _ _) 0,Below.refl _ _,by omega⟩
 have zc : ∀ j,j < 5 → ∃ u,W0.cell? ⟨z,j,none⟩ = some u:=by
  intro j hj
  have h1 : ∀ u,(w.alloc (.cells #[.int .i64 0,.int .i64 0,.int .u64 0,.string ⟨#[]⟩,.int .i64 0] 60)).cell? ⟨z,j,none⟩ = some u → W0.cell? ⟨z,j,none⟩ = some u:=fun u hu=>by
   rw [← hW0];exact ((below_box _ _).cell (p:=⟨z,j,none⟩) (by simp [hz])).trans hu
  have h2:=fun j=>blk_cell (heap_alloc_new w (.cells #[.int .i64 0,.int .i64 0,.int .u64 0,.string ⟨#[]⟩,.int .i64 0] 60)) j
  rw [hz] at h2
  match j,hj with
  | 0,_=>exact ⟨_,h1 _ ((h2 0).trans rfl)⟩
  | 1,_=>exact ⟨_,h1 _ ((h2 1).trans rfl)⟩
  | 2,_=>exact ⟨_,h1 _ ((h2 2).trans rfl)⟩
  | 3,_=>exact ⟨_,h1 _ ((h2 3).trans rfl)⟩
  | 4,_=>exact ⟨_,h1 _ ((h2 4).trans rfl)⟩
 have zf : ∀ j,W0.frozen? ⟨z,j,none⟩ = false:=fun j=>by
  rw [← hW0,← hz]
  exact ((below_box _ _).frozen (p:=⟨w.heap.size,j,none⟩) (by simp)).trans (blk_frozen (heap_alloc_new w (.cells #[.int .i64 0,.int .i64 0,.int .u64 0,.string ⟨#[]⟩,.int .i64 0] 60)) j)
 have ZF:=hidF zf
 have ZC:=hidF zc
 have hzb : z < b:=by omega
 have hwb : w.heap.size ≤ b:=by omega
 have hwz : w.heap.size ≤ z:=by omega
 clear zc zf hnb hsz
 go_enter Tryz.func37,Tryz.ntmps37
 go_wp2
 clear hW0 hz hb
 go_loopw [16] (fun v wr=>∃ i : Nat,v = .int .i64 (i : Int) ∧ i ≤ e.length ∧ Hid (Stk b W0 (runC r (e.take i) []).reverse wr) ∧ Hid (∀ y ∈ runC r (e.take i) [],GoodC y)) (fun v _=>e.length - natOfI v)
 case atStart=>exact ⟨0,rfl,by omega,HK0,hidF (fun y hy=>by cases hy)⟩
 case round =>
  clear HK0
  obtain ⟨i,rfl,hil,HK,HG⟩:=hrel
  by_cases hlt : i < e.length
  ·obtain ⟨d,hd⟩ : ∃ d,e[i]? = some d:=⟨_,List.getElem?_eq_getElem hlt⟩
   have hdm:=HDD.out d (List.mem_of_getElem? hd)
   have HBw:=hidF (HB0.out.trans (HK.out.bel.mono hwb))
   have hbr : b < wr.heap.size:=HK.out.lt
   obtain ⟨sl,snx,scs⟩:=sound_at (n0:=noneC r) (n1:=oneC) (n2:=twoC) (takes_ok (r.length : Int)) HS.out i d hd
   have rdd : rd_T41 e (i : Int) = d:=by
    unfold rd_T41
    simp only [Int.toNat_natCast,List.getD_eq_getElem?_getD]
    rw [hd];rfl
   obtain ⟨ad,ea,k0,k1,k2,k3,k4,k5⟩:=at_T41 (Kd.C_below HC.out HBw.out) (i : Int) (by omega) (by omega)
   cases ea
   rw [rdd] at k0 k1 k2 k3 k4 k5
   simp only [Int.toNat_natCast] at k0 k1 k2 k3 k4 k5
   have hii : (i : Int) < (e.length : Int):=by omega
   have SNX : Hid (runC r (e.take (i + 1)) [] = mstep (fun d=>d.f0) (noneC r) oneC twoC (runC r (e.take i) []) d):=hidF snx
   have slen : (runC r (e.take i) []).length ≤ 4000:=Nat.le_trans sl (by omega)
   clear hd rdd snx sl
   rcases scs with ⟨t0,t1,t2⟩ | ⟨t0,t1,t1',a,t,t2,t3⟩ | ⟨t0,t1,a,b2,t,t2,t3⟩
   ·have hw0 : d.f0 = 2 → 0 ≤ d.f1 ∧ d.f1 < (r.length : Int):=fun h2=>by
     unfold takesE at t0
     split at t0
     ·rename_i h;rcases h with h | h
      ·omega
      ·exact h.2
     ·split at t0
      ·cases t0
      ·split at t0 <;> cases t0
    have HSN : Hid (runC r (e.take (i + 1)) [] = noneC r d :: runC r (e.take i) []):=hidF (SNX.out.trans t2)
    have HG2 : Hid (∀ y ∈ runC r (e.take (i + 1)) [],GoodC y):=hidF (fun y hy=>by
     rw [HSN.out] at hy
     rcases List.mem_cons.1 hy with rfl | hy
     ·refine ⟨?_,.inl rfl⟩
      unfold noneC
      by_cases h2 : d.f0 = 2
      ·rw [if_pos h2];exact HRR.out _ (rd_mem r d.f1 (hw0 h2).1 (hw0 h2).2)
      ·rw [if_neg h2];exact hdm
     ·exact HG.out y hy)
    have HW0:=hidF hw0
    have c10 : decide (10 ≤ d.f0) = false:=decide_eq_false (by omega)
    have c3 : decide (3 ≤ d.f0) = false:=decide_eq_false (by omega)
    obtain ⟨y,hy⟩ : ∃ y,noneC r d = y:=⟨_,rfl⟩
    have HE1 : Hid (∀ W,Below w.heap.size w W → Calls Tryz.prog 31 #[.agg #[.int .i64 d.f0,.int .i64 d.f1,.int .i64 d.f2.f0,.int .i64 d.f2.f1,.int .u64 d.f2.f2,.string d.f2.f3],.pointer (some ⟨rb,0,none⟩)] W fun en w'=>en = .returned (.agg #[.int .i64 y.v.f0,.int .i64 y.v.f1,.int .u64 y.v.f2,.string y.v.f3,.int .i64 y.e]) ∧ Below W.heap.size W w'):=hidF fun W h=>by rw [← hy];exact HEV.out.one W d h HW0.out
    rw [hy] at HSN
    clear hw0 t0 t1 t2 hy hdm
    go_wp2_with (first
     | (go_at_call 31;((with_reducible refine (HE1.out _ (HBw.out.alloc HBw.out.size _)).mono ?_);rintro en w1 ⟨rfl,hb1⟩;have HK1:=hidF ((HK.out.al _).bl hb1);clear hb1))
     | (go_at_call 64;((with_reducible refine (push_c b W0 _ y w1 HK1.out (by simpa using slen)).mono ?_);rintro en w2 ⟨rfl,h2⟩;have HK2:=hidF h2;clear h2)))
    go_roundw
    case rel=>exact ⟨i + 1,by go_num,by omega,hidF (by rw [HSN.out,List.reverse_cons];exact HK2.out),HG2⟩
    case measure=>simp [natOfI];omega
   ·have HSN : Hid (runC r (e.take (i + 1)) [] = oneC d a :: t):=hidF (SNX.out.trans t3)
    have t2' : runC r (e.take i) [] = a :: t:=t2
    have ga : GoodC a:=HG.out a (by rw [t2'];simp)
    have HG2 : Hid (∀ y ∈ runC r (e.take (i + 1)) [],GoodC y):=hidF (fun y hy=>by
     rw [HSN.out] at hy
     rcases List.mem_cons.1 hy with rfl | hy
     ·exact good_one d a ga
     ·exact HG.out y (by rw [t2'];simp [hy]))
    have tl : t.length ≤ 3999:=by rw [t2'] at slen;simp at slen;omega
    have HKs : Hid (Stk b W0 (t.reverse ++ [a]) wr):=hidF (by have:=HK.out;rw [t2'] at this;simpa using this)
    have c10 : decide (10 ≤ d.f0) = false:=decide_eq_false (by omega)
    have c3 : decide (3 ≤ d.f0) = true:=decide_eq_true (by omega)
    obtain ⟨y,hy⟩ : ∃ y,oneC d a = y:=⟨_,rfl⟩
    have HE2 : Hid (∀ W,Below w.heap.size w W → Calls Tryz.prog 32 #[.agg #[.int .i64 d.f0,.int .i64 d.f1,.int .i64 d.f2.f0,.int .i64 d.f2.f1,.int .u64 d.f2.f2,.string d.f2.f3],.agg #[.int .i64 a.v.f0,.int .i64 a.v.f1,.int .u64 a.v.f2,.string a.v.f3,.int .i64 a.e]] W fun en w'=>en = .returned (.agg #[.int .i64 y.v.f0,.int .i64 y.v.f1,.int .u64 y.v.f2,.string y.v.f3,.int .i64 y.e]) ∧ Below W.heap.size W w'):=hidF fun W h=>by rw [← hy];exact HEV.out.two W d a h ga
    rw [hy] at HSN
    obtain ⟨W1,hW1⟩ : ∃ W1,wr.alloc (.cells #[.int .i64 d.f0,.int .i64 d.f1,.int .i64 d.f2.f0,.int .i64 d.f2.f1,.int .u64 d.f2.f2,.string d.f2.f3] 41) = W1:=⟨_,rfl⟩
    obtain ⟨D,hD⟩ : ∃ D,wr.heap.size = D:=⟨_,rfl⟩
    have hDb : D ≠ b:=by omega
    have hDz : D < W1.heap.size:=by rw [← hW1,← hD];simp
    have HK1:=hidF (show Stk b W0 (t.reverse ++ [a]) W1.drew by rw [← hW1];exact (HKs.out.al _).bl (Below.refl _ _).drew)
    have m0 : W1.cell? ⟨D,0,none⟩ = some (.int .i64 d.f0):=by rw [← hW1,← hD];exact (blk_cell (heap_alloc_new _ _) 0).trans rfl
    have m1 : W1.cell? ⟨D,1,none⟩ = some (.int .i64 d.f1):=by rw [← hW1,← hD];exact (blk_cell (heap_alloc_new _ _) 1).trans rfl
    have m2 : W1.cell? ⟨D,2,none⟩ = some (.int .i64 d.f2.f0):=by rw [← hW1,← hD];exact (blk_cell (heap_alloc_new _ _) 2).trans rfl
    have m3 : W1.cell? ⟨D,3,none⟩ = some (.int .i64 d.f2.f1):=by rw [← hW1,← hD];exact (blk_cell (heap_alloc_new _ _) 3).trans rfl
    have m4 : W1.cell? ⟨D,4,none⟩ = some (.int .u64 d.f2.f2):=by rw [← hW1,← hD];exact (blk_cell (heap_alloc_new _ _) 4).trans rfl
    have m5 : W1.cell? ⟨D,5,none⟩ = some (.string d.f2.f3):=by rw [← hW1,← hD];exact (blk_cell (heap_alloc_new _ _) 5).trans rfl
    clear t0 t1 t1' t2 t2' t3 hy hdm ga slen
    go_wp2_with fail
    clear hW1 hD
    go_region_with (first
     | (go_at_call 63;((with_reducible refine (pop_c b W0 _ a W1.drew HK1.out (by simp;omega)).mono ?_);rintro en w2 ⟨rfl,h2,s2⟩;have HK2:=hidF h2;have p0:=(s2.cell (k:=D) hDz hDb 0).trans m0;have p1:=(s2.cell (k:=D) hDz hDb 1).trans m1;have p2:=(s2.cell (k:=D) hDz hDb 2).trans m2;have p3:=(s2.cell (k:=D) hDz hDb 3).trans m3;have p4:=(s2.cell (k:=D) hDz hDb 4).trans m4;have p5:=(s2.cell (k:=D) hDz hDb 5).trans m5;clear h2 s2))
     | (go_at_call 32;((with_reducible refine (HE2.out _ (HB0.out.trans (HK2.out.bel.mono hwb))).mono ?_);rintro en w3 ⟨rfl,hb3⟩;have HK3:=hidF (HK2.out.bl hb3);clear hb3))
     | (go_at_call 64;((with_reducible refine (push_c b W0 _ y w3 HK3.out (by simp;omega)).mono ?_);rintro en w4 ⟨rfl,h4⟩;have HK4:=hidF h4;clear h4)))
    all_goals
     go_wp2_with fail
     go_roundw
     case rel=>exact ⟨i + 1,by go_num,by omega,hidF (by rw [HSN.out,List.reverse_cons];exact HK4.out),HG2⟩
     case measure=>simp [natOfI];omega
   ·have HSN : Hid (runC r (e.take (i + 1)) [] = twoC d a b2 :: t):=hidF (SNX.out.trans t3)
    have t2' : runC r (e.take i) [] = b2 :: a :: t:=t2
    have ga : GoodC a:=HG.out a (by rw [t2'];simp)
    have gb : GoodC b2:=HG.out b2 (by rw [t2'];simp)
    have HG2 : Hid (∀ y ∈ runC r (e.take (i + 1)) [],GoodC y):=hidF (fun y hy=>by
     rw [HSN.out] at hy
     rcases List.mem_cons.1 hy with rfl | hy
     ·exact good_two d a b2 ga gb
     ·exact HG.out y (by rw [t2'];simp [hy]))
    have tl : t.length ≤ 3998:=by rw [t2'] at slen;simp at slen;omega
    have HKs : Hid (Stk b W0 ((t.reverse ++ [a]) ++ [b2]) wr):=hidF (by have:=HK.out;rw [t2'] at this;simpa using this)
    have c10 : decide (10 ≤ d.f0) = true:=decide_eq_true (by omega)
    obtain ⟨y,hy⟩ : ∃ y,twoC d a b2 = y:=⟨_,rfl⟩
    have HE3 : Hid (∀ W,Calls Tryz.prog 34 #[.agg #[.int .i64 d.f0,.int .i64 d.f1,.int .i64 d.f2.f0,.int .i64 d.f2.f1,.int .u64 d.f2.f2,.string d.f2.f3],.agg #[.int .i64 a.v.f0,.int .i64 a.v.f1,.int .u64 a.v.f2,.string a.v.f3,.int .i64 a.e],.agg #[.int .i64 b2.v.f0,.int .i64 b2.v.f1,.int .u64 b2.v.f2,.string b2.v.f3,.int .i64 b2.e]] W fun en w'=>en = .returned (.agg #[.int .i64 y.v.f0,.int .i64 y.v.f1,.int .u64 y.v.f2,.string y.v.f3,.int .i64 y.e]) ∧ Below W.heap.size W w'):=hidF fun W=>by rw [← hy];exact HEV.out.three W d a b2 ga gb
    rw [hy] at HSN
    clear t0 t1 t2 t2' t3 hy hdm ga gb slen
    go_wp2_with (first
     | (go_at_call 63;(fail_if_success (have:=w1));((with_reducible refine (pop_c b W0 _ b2 _ (HKs.out.al _) (by simp;omega)).mono ?_);rintro en w1 ⟨rfl,h1,s1⟩;have HK1:=hidF h1;have z1 : wr.heap.size < w1.heap.size:=(by have:=s1.size;simp at this;omega);have q0:=(s1.cell (k:=wr.heap.size) (by simp) (by omega) 0).trans ((blk_cell (heap_alloc_new _ _) 0).trans rfl);have q1:=(s1.cell (k:=wr.heap.size) (by simp) (by omega) 1).trans ((blk_cell (heap_alloc_new _ _) 1).trans rfl);have q2:=(s1.cell (k:=wr.heap.size) (by simp) (by omega) 2).trans ((blk_cell (heap_alloc_new _ _) 2).trans rfl);have q3:=(s1.cell (k:=wr.heap.size) (by simp) (by omega) 3).trans ((blk_cell (heap_alloc_new _ _) 3).trans rfl);have q4:=(s1.cell (k:=wr.heap.size) (by simp) (by omega) 4).trans ((blk_cell (heap_alloc_new _ _) 4).trans rfl);have q5:=(s1.cell (k:=wr.heap.size) (by simp) (by omega) 5).trans ((blk_cell (heap_alloc_new _ _) 5).trans rfl);clear h1 s1))
     | (go_at_call 63;((with_reducible refine (pop_c b W0 _ a _ (HK1.out.al _) (by simp;omega)).mono ?_);rintro en w2 ⟨rfl,h2,s2⟩;have HK2:=hidF h2;have z2 : w1.heap.size < w2.heap.size:=(by have:=s2.size;simp at this;omega);have p0:=(s2.cell (k:=wr.heap.size) (by simp;omega) (by omega) 0).trans (((below_box w1 _).cell (p:=⟨wr.heap.size,0,none⟩) z1).trans q0);have p1:=(s2.cell (k:=wr.heap.size) (by simp;omega) (by omega) 1).trans (((below_box w1 _).cell (p:=⟨wr.heap.size,1,none⟩) z1).trans q1);have p2:=(s2.cell (k:=wr.heap.size) (by simp;omega) (by omega) 2).trans (((below_box w1 _).cell (p:=⟨wr.heap.size,2,none⟩) z1).trans q2);have p3:=(s2.cell (k:=wr.heap.size) (by simp;omega) (by omega) 3).trans (((below_box w1 _).cell (p:=⟨wr.heap.size,3,none⟩) z1).trans q3);have p4:=(s2.cell (k:=wr.heap.size) (by simp;omega) (by omega) 4).trans (((below_box w1 _).cell (p:=⟨wr.heap.size,4,none⟩) z1).trans q4);have p5:=(s2.cell (k:=wr.heap.size) (by simp;omega) (by omega) 5).trans (((below_box w1 _).cell (p:=⟨wr.heap.size,5,none⟩) z1).trans q5);have x0:=(s2.cell (k:=w1.heap.size) (by simp) (by omega) 0).trans ((blk_cell (heap_alloc_new _ _) 0).trans rfl);have x1:=(s2.cell (k:=w1.heap.size) (by simp) (by omega) 1).trans ((blk_cell (heap_alloc_new _ _) 1).trans rfl);have x2:=(s2.cell (k:=w1.heap.size) (by simp) (by omega) 2).trans ((blk_cell (heap_alloc_new _ _) 2).trans rfl);have x3:=(s2.cell (k:=w1.heap.size) (by simp) (by omega) 3).trans ((blk_cell (heap_alloc_new _ _) 3).trans rfl);have x4:=(s2.cell (k:=w1.heap.size) (by simp) (by omega) 4).trans ((blk_cell (heap_alloc_new _ _) 4).trans rfl);clear h2 s2 q0 q1 q2 q3 q4 q5;have nz1 : wr.heap.size < w2.heap.size:=by omega))
     | (go_at_call 34;((with_reducible refine (HE3.out _).mono ?_);rintro en w3 ⟨rfl,hb3⟩;have HK3:=hidF ((HK2.out.al _).bl hb3);clear hb3))
     | (go_at_call 64;((with_reducible refine (push_c b W0 _ y w3 HK3.out (by simp;omega)).mono ?_);rintro en w4 ⟨rfl,h4⟩;have HK4:=hidF h4;clear h4)))
    go_roundw
    case rel=>exact ⟨i + 1,by go_num,by omega,hidF (by rw [HSN.out,List.reverse_cons];exact HK4.out),HG2⟩
    case measure=>simp [natOfI];omega
  ·have hie : i = e.length:=by omega
   have HKx : Hid (Stk b W0 ([] ++ [x]) wr):=hidF (by
    have:=HK.out
    rw [hie,List.take_of_length_le (Nat.le_refl _),HX.out] at this
    simpa using this)
   have hii : ¬ (i : Int) < (e.length : Int):=by omega
   obtain ⟨u0,z0⟩:=ZC.out 0 (by omega)
   obtain ⟨u1,z1⟩:=ZC.out 1 (by omega)
   obtain ⟨u2,z2⟩:=ZC.out 2 (by omega)
   obtain ⟨u3,z3⟩:=ZC.out 3 (by omega)
   obtain ⟨u4,z4⟩:=ZC.out 4 (by omega)
   have hd0 : decide ((i : Int) < (e.length : Int)) = false:=decide_eq_false hii
   clear hie HK HG hlt hil
   go_wp2_with (go_at_call 63;((with_reducible refine (pop_c b W0 _ x _ HKx.out (by simp)).mono ?_);rintro en w2 ⟨rfl,h2,s2⟩;have HK2:=hidF h2;replace z0:=(h2.bel.cell (p:=⟨z,0,none⟩) hzb).trans z0;replace z1:=(h2.bel.cell (p:=⟨z,1,none⟩) hzb).trans z1;replace z2:=(h2.bel.cell (p:=⟨z,2,none⟩) hzb).trans z2;replace z3:=(h2.bel.cell (p:=⟨z,3,none⟩) hzb).trans z3;replace z4:=(h2.bel.cell (p:=⟨z,4,none⟩) hzb).trans z4;have y0:=(h2.bel.frozen (p:=⟨z,0,none⟩) hzb).trans (ZF.out 0);have y1:=(h2.bel.frozen (p:=⟨z,1,none⟩) hzb).trans (ZF.out 1);have y2:=(h2.bel.frozen (p:=⟨z,2,none⟩) hzb).trans (ZF.out 2);have y3:=(h2.bel.frozen (p:=⟨z,3,none⟩) hzb).trans (ZF.out 3);have y4:=(h2.bel.frozen (p:=⟨z,4,none⟩) hzb).trans (ZF.out 4);clear h2 s2))
   have HB:=hidF (HB0.out.trans (HK2.out.bel.mono hwb))
   exact bodyPost_ret (v:=.agg #[.int .i64 x.v.f0,.int .i64 x.v.f1,.int .u64 x.v.f2,.string x.v.f3,.int .i64 x.e]) (by simp [results,Tryz.results37,go_sem, *]) rfl ⟨rfl,(by repeat (first | (with_reducible exact HB.out) | (with_reducible exact Below.refl _ _) | (with_reducible refine below_al ?_ _) | (with_reducible refine below_drewN ?_ _) | (with_reducible refine Below.drew ?_) | (with_reducible refine below_via (by assumption) ?_) | (with_reducible refine below_sc ?_ ?_ _;· (first | (simp;done) | (simp;omega) | omega))))⟩
end Go.Proofs.YtakcjiinchghaaaGreatDoor
end
section
namespace Go.Proofs.YtakcjiinchghaaaGreatDoor
set_option linter.unusedVariables false
set_option linter.unusedSimpArgs false
open Go.RowKit Go.Proofs.YtakcjiinchghaaaGreatDoorW.PrintWords Go.Proofs.YtakcjiinchghaaaGreatDoorW.PrintLast PRW
/-- a cell's five words -/
def kKnd : Kd Knd:=Kd.iso (Kd.pair (Kd.int .i64) (Kd.pair Kd.bool (Kd.pair Kd.bool Kd.bool))) (fun x : Knd=>(x.of_,x.null,x.bad,x.risk))
def kndW (x : Knd) : List Value:=[.int .i64 x.of_,.bool x.null,.bool x.bad,.bool x.risk]
theorem kKnd_open {w : World} {x : Knd} {cs : List Value} (h : kKnd.K w x cs) : cs = kndW x:=by
 obtain ⟨_,_,rfl,rfl,⟨_,_,rfl,rfl,⟨_,_,rfl,rfl,rfl⟩⟩⟩:=h
 exact rfl
theorem kKnd_mkM (w : World) (base : Nat) (ok : Nat → Prop) (x : Knd) : kKnd.M w base ok x (kndW x):=⟨[.int .i64 x.of_],_,rfl,rfl,⟨[.bool x.null],_,rfl,rfl,⟨[.bool x.bad],[.bool x.risk],rfl,rfl,rfl⟩⟩⟩
theorem infoK : (Tryz.prog.info? 73).map (fun i=>(i.zero,i.size,i.bytes)) = some (some (.agg #[.int .i64 0,.bool false,.bool false,.bool false]),4,16):=by kernel_rfl
/-- the stack in block b: what stands on it, the top last; nothing below b has changed since w0 -/
structure StK (b : Nat) (w0 : World) (l : List Knd) (W : World) : Prop where
 row : ∃ v,W.cell? ⟨b,0,none⟩ = some v ∧ Kd.R kKnd 73 W (b + 1) (fun k=>b + 1 ≤ k) v l
 frz : W.frozen? ⟨b,0,none⟩ = false
 bel : Below b w0 W
 lt : b < W.heap.size
theorem stK_set {b : Nat} {w0 w1 : World} {l : List Knd} {v u : Value} (hR : Kd.R kKnd 73 w1 (b + 1) (fun k=>b + 1 ≤ k) v l) (hB : Below b w0 w1) (hlt : b < w1.heap.size) (hc : w1.cell? ⟨b,0,none⟩ = some u) (hf : w1.frozen? ⟨b,0,none⟩ = false) : StK b w0 l (w1.setCell ⟨b,0,none⟩ v):=by
 refine ⟨⟨v,by simp [go_sem,hc],Kd.R_far (p:=⟨b,0,none⟩) hR (fun k hk=>by show k ≠ b;omega) v⟩,by simp [go_sem,hf],hB.setCell (Nat.le_refl _) _,by simpa using hlt⟩
set_option maxRecDepth 100000 in
set_option maxHeartbeats 4000000 in
theorem pushK_c (b : Nat) (w0 : World) (l : List Knd) (x : Knd) (W : World) (h : StK b w0 l W) (hl : l.length ≤ 4000) :
  Calls Tryz.prog 117 #[.pointer (some ⟨b,0,none⟩),.agg #[.int .i64 x.of_,.bool x.null,.bool x.bad,.bool x.risk]] W fun e w'=>e = .returned (.tuple #[]) ∧ StK b w0 (l ++ [x]) w':=by
 obtain ⟨v,c0,hR⟩:=h.row
 have f0:=h.frz
 have hlt:=h.lt
 obtain ⟨A,c,rfl,hle,hC⟩:=Kd.R_reads hR
 have HB:=hidF h.bel
 obtain ⟨W1,hW1⟩ : ∃ W1,W.alloc (.cells #[.int .i64 x.of_,.bool x.null,.bool x.bad,.bool x.risk] 73) = W1:=⟨_,rfl⟩
 obtain ⟨xb,hxb⟩ : ∃ xb,W.heap.size = xb:=⟨_,rfl⟩
 have hz1 : W1.heap.size = xb + 1:=by rw [← hW1,← hxb];simp
 have k0 : W1.cell? ⟨b,0,none⟩ = some (.slice A l.length c):=by rw [← hW1];exact ((below_box W _).cell (p:=⟨b,0,none⟩) hlt).trans c0
 have g0 : W1.frozen? ⟨b,0,none⟩ = false:=by rw [← hW1];exact ((below_box W _).frozen (p:=⟨b,0,none⟩) hlt).trans f0
 have x0 : W1.cell? ⟨xb,0,none⟩ = some (.int .i64 x.of_):=by rw [← hW1,← hxb];exact (blk_cell (heap_alloc_new _ _) 0).trans rfl
 have x1 : W1.cell? ⟨xb,1,none⟩ = some (.bool x.null):=by rw [← hW1,← hxb];exact (blk_cell (heap_alloc_new _ _) 1).trans rfl
 have x2 : W1.cell? ⟨xb,2,none⟩ = some (.bool x.bad):=by rw [← hW1,← hxb];exact (blk_cell (heap_alloc_new _ _) 2).trans rfl
 have x3 : W1.cell? ⟨xb,3,none⟩ = some (.bool x.risk):=by rw [← hW1,← hxb];exact (blk_cell (heap_alloc_new _ _) 3).trans rfl
 have HR:=hidF (show Kd.R kKnd 73 W1 (b + 1) (fun k=>b + 1 ≤ k) (.slice A l.length c) l by rw [← hW1];exact Kd.R_alloc hR _)
 have hne : (Value.slice A l.length c).ownBlock ≠ some xb:=fun e=>by have:=Kd.R_lt hR xb e;omega
 have HNE:=hidF hne
 have HB1:=hidF (show Below b w0 W1 by rw [← hW1];exact HB.out.alloc (by omega) _)
 have hbx : b < xb:=by omega
 have HZ1:=hidF hz1
 have hxz : xb < W1.heap.size:=by omega
 have hbz : b < W1.heap.size:=by omega
 go_enter Tryz.func117,Tryz.ntmps117
 go_wp2_with fail
 clear h hR hC hW1 hxb hz1 HB c0 f0 hlt hne
 go_region_law (refine Kd.R_append_step kKnd (w0:=W1) (W:=W1.drew) (b + 1) ?hw (.tmp 7) (.tmp 9) 148 73 (.agg #[.int .i64 0,.bool false,.bool false,.bool false]) 16 ?ho Tryz.underlying148 infoK rfl (by decide) (by omega) (.slice A l.length c) l x [.int .i64 x.of_,.bool x.null,.bool x.bad,.bool x.risk] (fun k=>b + 1 ≤ k) (fun _=>False) ?hs ?hx (kKnd_mkM _ _ _ x) (fun _ hk=>hk.elim) ?hf ?hO ?hB ?hb ?hl ?_;(case hw=>rfl);(case ho=>rfl);(case hs=>rfl);(case hx=>rfl);(case hf=>(intro k hk;simp at hk;omega));(case hO=>((with_reducible repeat (first | apply Kd.R_alloc | apply Kd.R_drewN | apply Kd.R_drew));exact HR.out));(case hB=>(repeat (first | exact Below.refl _ _ | refine Below.alloc ?_ (by simp;omega) _ | refine below_drewN ?_ _ | refine Below.drew ?_)));(case hb=>(simp;omega));(case hl=>omega);intro v1 w1 ho hb hg hat;obtain ⟨A1,c1,e1_⟩:=Kd.R_slice ho;subst e1_;have HO:=hidF ho;have HB2:=hidF hb;have g1:=(hb.frozen (p:=⟨b,0,none⟩) (by simp)).trans g0;have k1:=(hb.cell (p:=⟨b,0,none⟩) (by simp)).trans k0;have hzb : b < w1.heap.size:=Nat.lt_of_lt_of_le hbz hb.size;have y0:=(hg.cell_far ⟨xb,0,none⟩ hxz (Ne.symm HNE.out)).trans x0;have y1:=(hg.cell_far ⟨xb,1,none⟩ hxz (Ne.symm HNE.out)).trans x1;have y2:=(hg.cell_far ⟨xb,2,none⟩ hxz (Ne.symm HNE.out)).trans x2;have y3:=(hg.cell_far ⟨xb,3,none⟩ hxz (Ne.symm HNE.out)).trans x3;clear ho hb hg hat)
 all_goals exact bodyPost_end (v:=.tuple #[]) (by simp [results,Tryz.results117,go_sem]) rfl ⟨rfl,by have:=stK_set HO.out (HB1.out.trans (HB2.out.mono (Nat.le_succ _))) hzb k1 g1;simpa using this⟩
theorem at_Knd {w : World} {A : Option Addr} {n : Nat} {xs : List Knd} (h : Kd.C kKnd w A n xs) (i : Nat) (x : Knd) (hx : xs[i]? = some x) : ∃ ad,A = some ad ∧ w.cell? (ad.add (i * 4)) = some (.int .i64 x.of_) ∧ w.cell? ⟨(ad.add (i * 4)).block,(ad.add (i * 4)).off + 1,none⟩ = some (.bool x.null) ∧ w.cell? ⟨(ad.add (i * 4)).block,(ad.add (i * 4)).off + 2,none⟩ = some (.bool x.bad) ∧ w.cell? ⟨(ad.add (i * 4)).block,(ad.add (i * 4)).off + 3,none⟩ = some (.bool x.risk):=by
 obtain ⟨h1,_,h3⟩:=h
 have hi : i < xs.length:=(List.getElem?_eq_some_iff.1 hx).1
 obtain ⟨ad,rfl,hc⟩:=h3 (by omega)
 obtain ⟨cs,_,hK,hcell⟩:=hc i x hx
 obtain rfl:=kKnd_open hK
 refine ⟨ad,rfl,hcell 0 _ rfl, ?_, ?_, ?_⟩
 ·rw [← add_field _ _ 1 (by omega)];exact hcell 1 _ rfl
 ·rw [← add_field _ _ 2 (by omega)];exact hcell 2 _ rfl
 ·rw [← add_field _ _ 3 (by omega)];exact hcell 3 _ rfl
theorem StK.al {b : Nat} {w0 W : World} {l : List Knd} (h : StK b w0 l W) (o : Obj) : StK b w0 l (W.alloc o):=by
 obtain ⟨⟨v,c0,hR⟩,hf,hB,hlt⟩:=h
 exact ⟨⟨v,((below_box W o).cell (p:=⟨b,0,none⟩) hlt).trans c0,Kd.R_alloc hR _⟩,((below_box W o).frozen (p:=⟨b,0,none⟩) hlt).trans hf,hB.alloc (Nat.le_of_lt hlt) _,Nat.lt_of_lt_of_le hlt (below_box W o).size⟩
theorem StK.bl {b : Nat} {w0 W W' : World} {l : List Knd} (h : StK b w0 l W) (k : Below W.heap.size W W') : StK b w0 l W':=by
 obtain ⟨⟨v,c0,hR⟩,hf,hB,hlt⟩:=h
 exact ⟨⟨v,(k.cell (p:=⟨b,0,none⟩) hlt).trans c0,Kd.R_below hR k⟩,(k.frozen (p:=⟨b,0,none⟩) hlt).trans hf,hB.trans (k.mono (Nat.le_of_lt hlt)),Nat.lt_of_lt_of_le hlt k.size⟩
set_option maxRecDepth 100000 in
set_option maxHeartbeats 4000000 in
theorem popK_c (b : Nat) (w0 : World) (l : List Knd) (x : Knd) (W : World) (h : StK b w0 (l ++ [x]) W) (hl : l.length ≤ 4000) :
  Calls Tryz.prog 116 #[.pointer (some ⟨b,0,none⟩)] W fun e w'=>e = .returned (.agg #[.int .i64 x.of_,.bool x.null,.bool x.bad,.bool x.risk]) ∧ StK b w0 l w' ∧ Sm b W w':=by
 obtain ⟨v,c0,hR⟩:=h.row
 have f0:=h.frz
 have hlt:=h.lt
 obtain ⟨A,c,rfl,hle,hC⟩:=Kd.R_reads hR
 have hR2:=Kd.R_take (m:=l.length) hR (by simp)
 rw [List.take_left] at hR2
 have HS:=hidF (stK_set hR2 h.bel hlt c0 f0)
 obtain ⟨ad,rfl,k0,k1,k2,k3⟩:=at_Knd hC l.length x (by simp)
 have hn : (l ++ [x]).length = l.length + 1:=by simp
 rw [hn] at c0
 have i1 : IntKind.i64.wrap (((l.length + 1 : Nat) : Int) - 1) = (l.length : Int):=by rw [IntKind.wrap_i64];omega
 have i2 : (((l.length + 1 : Nat) : Int) - 1) = (l.length : Int):=by omega
 have bk : (ad.add (l.length * 4)).block < W.heap.size:=World.block_lt_of_cell? W _ k0
 have n1 : ¬ (ad.add (l.length * 4)).block = W.heap.size:=by omega
 have n1' : ¬ W.heap.size = (ad.add (l.length * 4)).block:=by omega
 have n2 : ¬ b = W.heap.size:=by omega
 have n2' : ¬ W.heap.size = b:=by omega
 have hle2 : l.length ≤ c:=by simp at hle;omega
 clear h hR hR2 hC hle hn
 go_enter Tryz.func116,Tryz.ntmps116
 go_wp2
 exact bodyPost_ret (v:=.agg #[.int .i64 x.of_,.bool x.null,.bool x.bad,.bool x.risk]) (by simp [results,Tryz.results116,go_sem]) rfl ⟨rfl,(HS.out.al _).al _,((Sm.put _ _ _).al _).al _⟩
end Go.Proofs.YtakcjiinchghaaaGreatDoor
end
section
namespace Go.Proofs.YtakcjiinchghaaaGreatDoor
set_option linter.unusedVariables false
set_option linter.unusedSimpArgs false
open Go.RowKit Go.Proofs.YtakcjiinchghaaaGreatDoorW.PrintWords Go.Proofs.YtakcjiinchghaaaGreatDoorW.PrintLast PRW
def kndA (x : Knd) : Value:=.agg #[.int .i64 x.of_,.bool x.null,.bool x.bad,.bool x.risk]
set_option maxRecDepth 100000 in
set_option maxHeartbeats 8000000 in
theorem one3_c (d : S41) (a : Knd) (w : World) (h6 : d.f0 = 3) :
  Calls Tryz.prog 78 #[.agg #[.int .i64 d.f0,.int .i64 d.f1,.int .i64 d.f2.f0,.int .i64 d.f2.f1,.int .u64 d.f2.f2,.string d.f2.f3],.agg #[.int .i64 a.of_,.bool a.null,.bool a.bad,.bool a.risk]] w fun e w'=>e = .returned (kndA (kOne d a)) ∧ Below w.heap.size w w':=by
 obtain ⟨a0,a1,a2,a3⟩:=a
 obtain ⟨d0,d1,⟨d2,d3,d4,d5⟩⟩:=d
 simp only at h6 ⊢
 obtain ⟨y,hr⟩ : ∃ y,kOne ⟨d0,d1,⟨d2,d3,d4,d5⟩⟩ ⟨a0,a1,a2,a3⟩ = y:=⟨_,rfl⟩
 rw [hr]
 unfold kOne at hr
 simp only at hr
 rw [if_pos h6] at hr;subst h6
 have HR:=hidF hr
 clear hr
 go_enter Tryz.func78,Tryz.ntmps78
 go_wp2
 all_goals
  have hr:=HR.out
  subst hr
  exact bodyPost_ret (v:=kndA _) (by simp [results,Tryz.results78,go_sem,kndA, *] <;> first | rfl | grind) rfl ⟨rfl,(by repeat (first | (with_reducible exact Below.refl _ _) | (with_reducible refine below_al ?_ _) | (with_reducible refine below_drewN ?_ _) | (with_reducible refine Below.drew ?_) | (with_reducible refine below_via (by assumption) ?_) | (with_reducible refine below_sc ?_ ?_ _;· (first | (simp;done) | (simp;omega) | omega))))⟩
set_option maxRecDepth 100000 in
set_option maxHeartbeats 8000000 in
theorem one4_c (d : S41) (a : Knd) (w : World) (h6 : d.f0 = 4) :
  Calls Tryz.prog 78 #[.agg #[.int .i64 d.f0,.int .i64 d.f1,.int .i64 d.f2.f0,.int .i64 d.f2.f1,.int .u64 d.f2.f2,.string d.f2.f3],.agg #[.int .i64 a.of_,.bool a.null,.bool a.bad,.bool a.risk]] w fun e w'=>e = .returned (kndA (kOne d a)) ∧ Below w.heap.size w w':=by
 obtain ⟨a0,a1,a2,a3⟩:=a
 obtain ⟨d0,d1,⟨d2,d3,d4,d5⟩⟩:=d
 simp only at h6 ⊢
 obtain ⟨y,hr⟩ : ∃ y,kOne ⟨d0,d1,⟨d2,d3,d4,d5⟩⟩ ⟨a0,a1,a2,a3⟩ = y:=⟨_,rfl⟩
 rw [hr]
 unfold kOne at hr
 simp only at hr
 rw [if_neg (by omega),if_pos h6] at hr;subst h6
 have HR:=hidF hr
 clear hr
 go_enter Tryz.func78,Tryz.ntmps78
 go_wp2
 all_goals
  have hr:=HR.out
  subst hr
  exact bodyPost_ret (v:=kndA _) (by simp [results,Tryz.results78,go_sem,kndA, *] <;> first | rfl | grind) rfl ⟨rfl,(by repeat (first | (with_reducible exact Below.refl _ _) | (with_reducible refine below_al ?_ _) | (with_reducible refine below_drewN ?_ _) | (with_reducible refine Below.drew ?_) | (with_reducible refine below_via (by assumption) ?_) | (with_reducible refine below_sc ?_ ?_ _;· (first | (simp;done) | (simp;omega) | omega))))⟩
set_option maxRecDepth 100000 in
set_option maxHeartbeats 8000000 in
theorem one5_c (d : S41) (a : Knd) (w : World) (h6 : d.f0 = 5) :
  Calls Tryz.prog 78 #[.agg #[.int .i64 d.f0,.int .i64 d.f1,.int .i64 d.f2.f0,.int .i64 d.f2.f1,.int .u64 d.f2.f2,.string d.f2.f3],.agg #[.int .i64 a.of_,.bool a.null,.bool a.bad,.bool a.risk]] w fun e w'=>e = .returned (kndA (kOne d a)) ∧ Below w.heap.size w w':=by
 obtain ⟨a0,a1,a2,a3⟩:=a
 obtain ⟨d0,d1,⟨d2,d3,d4,d5⟩⟩:=d
 simp only at h6 ⊢
 obtain ⟨y,hr⟩ : ∃ y,kOne ⟨d0,d1,⟨d2,d3,d4,d5⟩⟩ ⟨a0,a1,a2,a3⟩ = y:=⟨_,rfl⟩
 rw [hr]
 unfold kOne at hr
 simp only at hr
 rw [if_neg (by omega),if_neg (by omega),if_pos h6] at hr;subst h6
 have HR:=hidF hr
 clear hr
 go_enter Tryz.func78,Tryz.ntmps78
 go_wp2
 all_goals
  have hr:=HR.out
  subst hr
  exact bodyPost_ret (v:=kndA _) (by simp [results,Tryz.results78,go_sem,kndA, *] <;> first | rfl | grind) rfl ⟨rfl,(by repeat (first | (with_reducible exact Below.refl _ _) | (with_reducible refine below_al ?_ _) | (with_reducible refine below_drewN ?_ _) | (with_reducible refine Below.drew ?_) | (with_reducible refine below_via (by assumption) ?_) | (with_reducible refine below_sc ?_ ?_ _;· (first | (simp;done) | (simp;omega) | omega))))⟩
set_option maxRecDepth 100000 in
set_option maxHeartbeats 8000000 in
theorem one6_c (d : S41) (a : Knd) (w : World) (h6 : d.f0 = 6) :
  Calls Tryz.prog 78 #[.agg #[.int .i64 d.f0,.int .i64 d.f1,.int .i64 d.f2.f0,.int .i64 d.f2.f1,.int .u64 d.f2.f2,.string d.f2.f3],.agg #[.int .i64 a.of_,.bool a.null,.bool a.bad,.bool a.risk]] w fun e w'=>e = .returned (kndA (kOne d a)) ∧ Below w.heap.size w w':=by
 obtain ⟨a0,a1,a2,a3⟩:=a
 obtain ⟨d0,d1,⟨d2,d3,d4,d5⟩⟩:=d
 simp only at h6 ⊢
 obtain ⟨y,hr⟩ : ∃ y,kOne ⟨d0,d1,⟨d2,d3,d4,d5⟩⟩ ⟨a0,a1,a2,a3⟩ = y:=⟨_,rfl⟩
 rw [hr]
 unfold kOne at hr
 simp only at hr
 rw [if_neg (by omega),if_neg (by omega),if_neg (by omega),if_pos h6] at hr;subst h6
 have HR:=hidF hr
 clear hr
 go_enter Tryz.func78,Tryz.ntmps78
 go_wp2
 all_goals
  have hr:=HR.out
  subst hr
  exact bodyPost_ret (v:=kndA _) (by simp [results,Tryz.results78,go_sem,kndA, *] <;> first | rfl | grind) rfl ⟨rfl,(by repeat (first | (with_reducible exact Below.refl _ _) | (with_reducible refine below_al ?_ _) | (with_reducible refine below_drewN ?_ _) | (with_reducible refine Below.drew ?_) | (with_reducible refine below_via (by assumption) ?_) | (with_reducible refine below_sc ?_ ?_ _;· (first | (simp;done) | (simp;omega) | omega))))⟩
end Go.Proofs.YtakcjiinchghaaaGreatDoor
end
section
namespace Go.Proofs.YtakcjiinchghaaaGreatDoor
set_option linter.unusedVariables false
set_option linter.unusedSimpArgs false
open Go.RowKit Go.Proofs.YtakcjiinchghaaaGreatDoorW.PrintWords Go.Proofs.YtakcjiinchghaaaGreatDoorW.PrintLast PRW
set_option maxRecDepth 100000 in
set_option maxHeartbeats 8000000 in
theorem typed1_c (rb : Nat) (A : Option Addr) (c : Nat) (cols : List S57) (d : S41) (w : World) (hp : w.cell? ⟨rb,0,none⟩ = some (.slice A cols.length c)) (hC : Kd.C k57 w A cols.length cols) (hd : d.f0 ≠ 1 → 0 ≤ d.f1 ∧ d.f1 < cols.length) :
  Calls Tryz.prog 77 #[.agg #[.int .i64 d.f0,.int .i64 d.f1,.int .i64 d.f2.f0,.int .i64 d.f2.f1,.int .u64 d.f2.f2,.string d.f2.f3],.pointer (some ⟨rb,0,none⟩)] w fun e w'=>e = .returned (kndA (kNone cols d)) ∧ Below w.heap.size w w':=by
 have hlt:=World.block_lt_of_cell? w _ hp
 by_cases h2 : d.f0 = 1
 ·obtain ⟨d0,d1,⟨d2,d3,d4,d5⟩⟩:=d
  simp only at h2 hd ⊢
  have hr : kNone cols ⟨d0,d1,⟨d2,d3,d4,d5⟩⟩ = ⟨d2,decide (d2 = 0),false,false⟩:=by unfold kNone;rw [if_pos h2]
  rw [hr]
  subst h2
  clear hr hd hC
  go_enter Tryz.func77,Tryz.ntmps77
  go_wp2
  all_goals exact bodyPost_ret (v:=kndA _) (by simp [results,Tryz.results77,go_sem,kndA, *] <;> first | rfl | grind) rfl ⟨rfl,(by repeat (first | (with_reducible exact Below.refl _ _) | (with_reducible refine below_al ?_ _) | (with_reducible refine below_drewN ?_ _) | (with_reducible refine Below.drew ?_) | (with_reducible refine below_via (by assumption) ?_) | (with_reducible refine below_sc ?_ ?_ _;· (first | (simp;done) | (simp;omega) | omega))))⟩
 ·obtain ⟨h0,h1⟩:=hd h2
  obtain ⟨ad,rfl,k0,k1,k2⟩:=at_T57 hC d.f1 h0 h1
  have bk:=World.block_lt_of_cell? w _ k0
  have n1 : ¬ (ad.add (d.f1.toNat * 3)).block = w.heap.size:=by omega
  have n1' : ¬ w.heap.size = (ad.add (d.f1.toNat * 3)).block:=by omega
  have n2 : ¬ (ad.add (d.f1.toNat * 3)).block = w.heap.size + 1:=by omega
  have n2' : ¬ w.heap.size + 1 = (ad.add (d.f1.toNat * 3)).block:=by omega
  have hr : kNone cols d = ⟨(rd_T57 cols d.f1).f1,(rd_T57 cols d.f1).f2,decide ((rd_T57 cols d.f1).f1 < 1) || decide (4 < (rd_T57 cols d.f1).f1),false⟩:=by unfold kNone;rw [if_neg h2]
  rw [hr]
  generalize rd_T57 cols d.f1 = y at *
  have e2 : (d.f0 == 1) = false:=beq_eq_false_iff_ne.2 h2
  obtain ⟨y0,y1,y2⟩:=y
  simp only at k0 k1 k2
  clear hr h2 hd hC
  go_enter Tryz.func77,Tryz.ntmps77
  go_wp2
  all_goals exact bodyPost_ret (v:=kndA _) (by simp [results,Tryz.results77,go_sem,kndA, *] <;> first | rfl | grind) rfl ⟨rfl,(by repeat (first | (with_reducible exact Below.refl _ _) | (with_reducible refine below_al ?_ _) | (with_reducible refine below_drewN ?_ _) | (with_reducible refine Below.drew ?_) | (with_reducible refine below_via (by assumption) ?_) | (with_reducible refine below_sc ?_ ?_ _;· (first | (simp;done) | (simp;omega) | omega))))⟩
end Go.Proofs.YtakcjiinchghaaaGreatDoor
end
section
namespace Go.Proofs.YtakcjiinchghaaaGreatDoor
set_option linter.unusedVariables false
set_option linter.unusedSimpArgs false
open Go.RowKit Go.Proofs.YtakcjiinchghaaaGreatDoorW.PrintWords Go.Proofs.YtakcjiinchghaaaGreatDoorW.PrintLast PRW
set_option maxRecDepth 100000 in
set_option maxHeartbeats 8000000 in
theorem twoK_c (d : S41) (a b : Knd) (w : World) (h6 : 10 ≤ d.f0 ∧ d.f0 ≤ 24) :
  Calls Tryz.prog 79 #[.agg #[.int .i64 d.f0,.int .i64 d.f1,.int .i64 d.f2.f0,.int .i64 d.f2.f1,.int .u64 d.f2.f2,.string d.f2.f3],.agg #[.int .i64 a.of_,.bool a.null,.bool a.bad,.bool a.risk],.agg #[.int .i64 b.of_,.bool b.null,.bool b.bad,.bool b.risk]] w fun e w'=>e = .returned (kndA (kTwo d a b)) ∧ Below w.heap.size w w':=by
 obtain ⟨a0,a1,a2,a3⟩:=a
 obtain ⟨b0,b1,b2,b3⟩:=b
 obtain ⟨d0,d1,⟨d2,d3,d4,d5⟩⟩:=d
 simp only at h6 ⊢
 have H6:=hidF h6
 clear h6
 obtain ⟨y,hy⟩ : ∃ y,kTwo ⟨d0,d1,⟨d2,d3,d4,d5⟩⟩ ⟨a0,a1,a2,a3⟩ ⟨b0,b1,b2,b3⟩ = y:=⟨_,rfl⟩
 rw [hy]
 have HY:=hidF hy
 obtain ⟨n,hn⟩ : ∃ n,(a1 || b1) = n:=⟨_,rfl⟩
 obtain ⟨bd,hb⟩ : ∃ n,(a2 || b2) = n:=⟨_,rfl⟩
 obtain ⟨rk,hr⟩ : ∃ n,(a3 || b3) = n:=⟨_,rfl⟩
 obtain ⟨u,hu⟩ : ∃ u,((a0 != 0) && ((b0 != 0) && (a0 != b0))) = u:=⟨_,rfl⟩
 have HN:=hidF hn
 have HB:=hidF hb
 have HR:=hidF hr
 have HU:=hidF hu
 clear hy hn hb hr hu
 go_enter Tryz.func79,Tryz.ntmps79
 go_upto_region 2 with fail
 go_cut [8] (fun s8 wx=>s8 = .pointer (some ⟨w.heap.size + 1 + 1 + 1 + 1,0,none⟩) ∧ wx = ((((w.alloc (.cells #[.int .i64 d0,.int .i64 d1,.int .i64 d2,.int .i64 d3,.int .u64 d4,.string d5] 41)).alloc (.cells #[.int .i64 a0,.bool a1,.bool a2,.bool a3] 73)).alloc (.cells #[.int .i64 b0,.bool b1,.bool b2,.bool b3] 73)).alloc (.cells #[.int .i64 0,.bool false,.bool false,.bool false] 73)).alloc (.cells #[.int .i64 (max a0 b0),.bool (a1 || b1),.bool (a2 || b2),.bool (a3 || b3)] 73))
 case first =>
  cases a1 <;> cases a2 <;> cases a3
  all_goals (go_wp2;go_meet;exact ⟨rfl,rfl⟩)
 case rest =>
 obtain ⟨rfl,hwc⟩:=hcut
 rw [HN.out,HB.out,HR.out] at hwc
 subst hwc
 go_upto_region 3 with fail
 go_cut [9] (fun s9 wx=>s9 = .bool u ∧ wx = ((((w.alloc (.cells #[.int .i64 d0,.int .i64 d1,.int .i64 d2,.int .i64 d3,.int .u64 d4,.string d5] 41)).alloc (.cells #[.int .i64 a0,.bool a1,.bool a2,.bool a3] 73)).alloc (.cells #[.int .i64 b0,.bool b1,.bool b2,.bool b3] 73)).alloc (.cells #[.int .i64 0,.bool false,.bool false,.bool false] 73)).alloc (.cells #[.int .i64 (max a0 b0),.bool n,.bool bd,.bool rk] 73))
 case first =>
  by_cases e1 : a0 = 0
  ·subst e1
   go_wp2
   go_meet
   exact ⟨congrArg Value.bool HU.out,rfl⟩
  ·by_cases e2 : b0 = 0
   ·subst e2
    go_wp2
    go_meet
    exact ⟨congrArg Value.bool ((Bool.and_false _).symm.trans HU.out),rfl⟩
   ·go_wp2
    go_meet
    exact ⟨congrArg Value.bool (by rw [← HU.out,bne_iff_ne.2 e1,bne_iff_ne.2 e2];rfl),rfl⟩
 case rest =>
 obtain ⟨rfl,rfl⟩:=hcut
 have huu : unlikeE ⟨a0,a1,a2,a3⟩ ⟨b0,b1,b2,b3⟩ = u:=by
  rw [← HU.out];unfold unlikeE;simp only [bne];grind
 have HUU:=hidF huu
 clear huu
 obtain ⟨M,hM⟩ : ∃ M,max a0 b0 = M:=⟨_,rfl⟩
 have HM:=hidF hM
 rw [hM]
 clear hM
 go_upto_region 7 with fail
 have hc:=H6.out
 rcases (show (d0 = 22 ∨ d0 = 23) ∨ d0 = 24 ∨ (16 ≤ d0 ∧ d0 ≤ 21) ∨ d0 = 15 ∨ (10 ≤ d0 ∧ d0 ≤ 14) by omega) with q | q | q | q | q
 ·have HRc : Hid ((⟨1,n,bd || decide (1 < M),rk⟩ : Knd) = y):=hidF (by rw [← HY.out];unfold kTwo;simp only;rw [if_pos q,HN.out,HB.out,HR.out,HM.out])
  clear HY H6 HN HB HR HU HUU HM hc
  rcases q with q | q <;> subst q
  all_goals
   go_wp2
   all_goals
    have hr:=HRc.out
    subst hr
    exact bodyPost_ret (v:=kndA _) (by simp [results,Tryz.results79,go_sem,kndA, *] <;> first | rfl | grind) rfl ⟨rfl,(by repeat (first | (with_reducible exact Below.refl _ _) | (with_reducible refine below_al ?_ _) | (with_reducible refine below_drewN ?_ _) | (with_reducible refine Below.drew ?_) | (with_reducible refine below_via (by assumption) ?_) | (with_reducible refine below_sc ?_ ?_ _;· (first | (simp;done) | (simp;omega) | omega))))⟩
 ·have HRc : Hid ((⟨M,a1 && b1,bd || u,rk⟩ : Knd) = y):=hidF (by rw [← HY.out];unfold kTwo;simp only;rw [if_neg (by omega),if_pos q,HUU.out,HB.out,HR.out,HM.out])
  clear hc
  subst q
  clear HY H6 HN HB HR HU HUU HM
  go_wp2
  all_goals
   have hr:=HRc.out
   subst hr
   exact bodyPost_ret (v:=kndA _) (by simp [results,Tryz.results79,go_sem,kndA, *] <;> first | rfl | grind) rfl ⟨rfl,(by repeat (first | (with_reducible exact Below.refl _ _) | (with_reducible refine below_al ?_ _) | (with_reducible refine below_drewN ?_ _) | (with_reducible refine Below.drew ?_) | (with_reducible refine below_via (by assumption) ?_) | (with_reducible refine below_sc ?_ ?_ _;· (first | (simp;done) | (simp;omega) | omega))))⟩
 ·have HRc : Hid ((⟨1,n,bd || u,rk⟩ : Knd) = y):=hidF (by rw [← HY.out];unfold kTwo;simp only;rw [if_neg (by omega),if_neg (by omega),if_pos q.1,HUU.out,HN.out,HB.out,HR.out])
  have q1 : (d0 == 22) = false:=beq_eq_false_iff_ne.2 (by omega)
  have q2 : (d0 == 23) = false:=beq_eq_false_iff_ne.2 (by omega)
  have q3 : (d0 == 24) = false:=beq_eq_false_iff_ne.2 (by omega)
  have q4 : decide (16 ≤ d0) = true:=decide_eq_true q.1
  clear hc q
  clear HY H6 HN HB HR HU HUU HM
  go_wp2
  all_goals
   have hr:=HRc.out
   subst hr
   exact bodyPost_ret (v:=kndA _) (by simp [results,Tryz.results79,go_sem,kndA, *] <;> first | rfl | grind) rfl ⟨rfl,(by repeat (first | (with_reducible exact Below.refl _ _) | (with_reducible refine below_al ?_ _) | (with_reducible refine below_drewN ?_ _) | (with_reducible refine Below.drew ?_) | (with_reducible refine below_via (by assumption) ?_) | (with_reducible refine below_sc ?_ ?_ _;· (first | (simp;done) | (simp;omega) | omega))))⟩
 ·have HRc : Hid ((⟨M,n,bd || (decide (M ≠ 0) && decide (M ≠ 4)) || u,rk || decide (M = 4)⟩ : Knd) = y):=hidF (by rw [← HY.out];unfold kTwo;simp only;rw [if_neg (by omega),if_neg (by omega),if_neg (by omega),if_pos q,HUU.out,HN.out,HB.out,HR.out,HM.out])
  clear hc
  subst q
  clear HY H6 HN HB HR HU HUU HM
  go_wp2
  all_goals
   have hr:=HRc.out
   subst hr
   exact bodyPost_ret (v:=kndA _) (by simp [results,Tryz.results79,go_sem,kndA, *] <;> first | rfl | grind) rfl ⟨rfl,(by repeat (first | (with_reducible exact Below.refl _ _) | (with_reducible refine below_al ?_ _) | (with_reducible refine below_drewN ?_ _) | (with_reducible refine Below.drew ?_) | (with_reducible refine below_via (by assumption) ?_) | (with_reducible refine below_sc ?_ ?_ _;· (first | (simp;done) | (simp;omega) | omega))))⟩
 ·have HRc : Hid ((⟨M,n,bd || decide (M = 1) || decide (M = 4) || (decide (d0 = 14) && decide (M = 3)) || u,rk || decide (M = 2)⟩ : Knd) = y):=hidF (by rw [← HY.out];unfold kTwo;simp only;rw [if_neg (by omega),if_neg (by omega),if_neg (by omega),if_neg (by omega),HUU.out,HN.out,HB.out,HR.out,HM.out])
  have q1 : (d0 == 22) = false:=beq_eq_false_iff_ne.2 (by omega)
  have q2 : (d0 == 23) = false:=beq_eq_false_iff_ne.2 (by omega)
  have q3 : (d0 == 24) = false:=beq_eq_false_iff_ne.2 (by omega)
  have q4 : decide (16 ≤ d0) = false:=decide_eq_false (by omega)
  have q5 : (d0 == 15) = false:=beq_eq_false_iff_ne.2 (by omega)
  clear hc q
  clear HY H6 HN HB HR HU HUU HM
  go_wp2
  all_goals
   have hr:=HRc.out
   subst hr
   exact bodyPost_ret (v:=kndA _) (by simp [results,Tryz.results79,go_sem,kndA, *] <;> first | rfl | grind) rfl ⟨rfl,(by repeat (first | (with_reducible exact Below.refl _ _) | (with_reducible refine below_al ?_ _) | (with_reducible refine below_drewN ?_ _) | (with_reducible refine Below.drew ?_) | (with_reducible refine below_via (by assumption) ?_) | (with_reducible refine below_sc ?_ ?_ _;· (first | (simp;done) | (simp;omega) | omega))))⟩
end Go.Proofs.YtakcjiinchghaaaGreatDoor
end
section
namespace Go.Proofs.YtakcjiinchghaaaGreatDoor
set_option linter.unusedVariables false
set_option linter.unusedSimpArgs false
open Go.RowKit Go.Proofs.YtakcjiinchghaaaGreatDoorW.PrintWords Go.Proofs.YtakcjiinchghaaaGreatDoorW.PrintLast PRW
def runK (cols : List S57) (e : List S41) (s : List Knd) : List Knd:=mrun (fun d=>d.f0) (kNone cols) kOne kTwo e s
theorem takes_one {w : Int} {d : S41} (h : takesE w d = 1) : 3 ≤ d.f0 ∧ d.f0 ≤ 6:=by
 unfold takesE at h
 split at h
 ·cases h
 ·split at h
  ·omega
  ·split at h <;> cases h
theorem takes_two {w : Int} {d : S41} (h : takesE w d = 2) : 10 ≤ d.f0 ∧ d.f0 ≤ 24:=by
 unfold takesE at h
 split at h
 ·cases h
 ·split at h
  ·cases h
  ·split at h
   ·omega
   ·cases h
/-- what the three functions of typed are, in the worlds behind w -/
structure Kvs (rb : Nat) (cols : List S57) (w : World) : Prop where
 one : ∀ (W : World) (d : S41),Below w.heap.size w W → (d.f0 ≠ 1 → 0 ≤ d.f1 ∧ d.f1 < cols.length) → Calls Tryz.prog 77 #[.agg #[.int .i64 d.f0,.int .i64 d.f1,.int .i64 d.f2.f0,.int .i64 d.f2.f1,.int .u64 d.f2.f2,.string d.f2.f3],.pointer (some ⟨rb,0,none⟩)] W fun e w'=>e = .returned (kndA (kNone cols d)) ∧ Below W.heap.size W w'
 two : ∀ (W : World) (d : S41) (a : Knd),3 ≤ d.f0 ∧ d.f0 ≤ 6 → Calls Tryz.prog 78 #[.agg #[.int .i64 d.f0,.int .i64 d.f1,.int .i64 d.f2.f0,.int .i64 d.f2.f1,.int .u64 d.f2.f2,.string d.f2.f3],.agg #[.int .i64 a.of_,.bool a.null,.bool a.bad,.bool a.risk]] W fun e w'=>e = .returned (kndA (kOne d a)) ∧ Below W.heap.size W w'
 three : ∀ (W : World) (d : S41) (a b : Knd),10 ≤ d.f0 ∧ d.f0 ≤ 24 → Calls Tryz.prog 79 #[.agg #[.int .i64 d.f0,.int .i64 d.f1,.int .i64 d.f2.f0,.int .i64 d.f2.f1,.int .u64 d.f2.f2,.string d.f2.f3],.agg #[.int .i64 a.of_,.bool a.null,.bool a.bad,.bool a.risk],.agg #[.int .i64 b.of_,.bool b.null,.bool b.bad,.bool b.risk]] W fun e w'=>e = .returned (kndA (kTwo d a b)) ∧ Below W.heap.size W w'
set_option maxRecDepth 100000 in
set_option maxHeartbeats 8000000 in
theorem runK_c (rb : Nat) (cols : List S57) (A : Option Addr) (c : Nat) (e : List S41) (w : World) (hC : Kd.C k41 w A e.length e) (hl : e.length ≤ 4000) (hs : mh (takesE (cols.length : Int)) e 0 = some 1)
  (hev : Kvs rb cols w) (x : Knd) (hx : runK cols e [] = [x]) :
  Calls Tryz.prog 76 #[.slice A e.length c,.func (.func 77) #[] #[.pointer (some ⟨rb,0,none⟩)],.func (.func 78) #[] #[],.func (.func 79) #[] #[]] w fun en w'=>en = .returned (kndA x) ∧ Below w.heap.size w w':=by
 have HEV:=hidF hev
 have HC:=hidF hC
 have HS:=hidF hs
 have HX:=hidF hx
 clear hev hC hs hx
 obtain ⟨W0,hW0⟩ : ∃ W0,(w.alloc (.cells #[.int .i64 0,.bool false,.bool false,.bool false] 73)).alloc (.cells #[.slice none 0 0] 148) = W0:=⟨_,rfl⟩
 obtain ⟨z,hz⟩ : ∃ z,w.heap.size = z:=⟨_,rfl⟩
 obtain ⟨b,hb⟩ : ∃ b,z + 1 = b:=⟨_,rfl⟩
 have HB0:=hidF (show Below w.heap.size w W0 by rw [← hW0];exact (below_box w _).trans ((below_box _ _).mono (by simp)))
 have hsz : W0.heap.size = b + 1:=by rw [← hW0,← hb,← hz];simp
 have hnb : (w.alloc (.cells #[.int .i64 0,.bool false,.bool false,.bool false] 73)).heap.size = b:=by rw [← hb,← hz];simp
 have HK0 : Hid (StK b W0 [] W0):=hidF ⟨⟨.slice none 0 0,by rw [← hW0,← hnb];exact (blk_cell (heap_alloc_new _ _) 0).trans rfl,Kd.R_nil _ _ _ _ _⟩,by rw [← hW0,← hnb];exact blk_frozen (heap_alloc_new _ _) 0,Below.refl _ _,by omega⟩
 have zc : ∀ j,j < 4 → ∃ u,W0.cell? ⟨z,j,none⟩ = some u:=by
  intro j hj
  have h1 : ∀ u,(w.alloc (.cells #[.int .i64 0,.bool false,.bool false,.bool false] 73)).cell? ⟨z,j,none⟩ = some u → W0.cell? ⟨z,j,none⟩ = some u:=fun u hu=>by
   rw [← hW0];exact ((below_box _ _).cell (p:=⟨z,j,none⟩) (by simp [hz])).trans hu
  have h2:=fun j=>blk_cell (heap_alloc_new w (.cells #[.int .i64 0,.bool false,.bool false,.bool false] 73)) j
  rw [hz] at h2
  match j,hj with
  | 0,_=>exact ⟨_,h1 _ ((h2 0).trans rfl)⟩
  | 1,_=>exact ⟨_,h1 _ ((h2 1).trans rfl)⟩
  | 2,_=>exact ⟨_,h1 _ ((h2 2).trans rfl)⟩
  | 3,_=>exact ⟨_,h1 _ ((h2 3).trans rfl)⟩
 have zf : ∀ j,W0.frozen? ⟨z,j,none⟩ = false:=fun j=>by
  rw [← hW0,← hz]
  exact ((below_box _ _).frozen (p:=⟨w.heap.size,j,none⟩) (by simp)).trans (blk_frozen (heap_alloc_new w (.cells #[.int .i64 0,.bool false,.bool false,.bool false] 73)) j)
 have ZF:=hidF zf
 have ZC:=hidF zc
 have hzb : z < b:=by omega
 have hwb : w.heap.size ≤ b:=by omega
 have hwz : w.heap.size ≤ z:=by omega
 clear zc zf hnb hsz
 go_enter Tryz.func76,Tryz.ntmps76
 go_wp2
 clear hW0 hz hb
 go_loopw [16] (fun v wr=>∃ i : Nat,v = .int .i64 (i : Int) ∧ i ≤ e.length ∧ Hid (StK b W0 (runK cols (e.take i) []).reverse wr)) (fun v _=>e.length - natOfI v)
 case atStart=>exact ⟨0,rfl,by omega,HK0⟩
 case round =>
  clear HK0
  obtain ⟨i,rfl,hil,HK⟩:=hrel
  by_cases hlt : i < e.length
  ·obtain ⟨d,hd⟩ : ∃ d,e[i]? = some d:=⟨_,List.getElem?_eq_getElem hlt⟩
   have HBw:=hidF (HB0.out.trans (HK.out.bel.mono hwb))
   have hbr : b < wr.heap.size:=HK.out.lt
   obtain ⟨sl,snx,scs⟩:=sound_at (n0:=kNone cols) (n1:=kOne) (n2:=kTwo) (takes_ok (cols.length : Int)) HS.out i d hd
   have rdd : rd_T41 e (i : Int) = d:=by
    unfold rd_T41
    simp only [Int.toNat_natCast,List.getD_eq_getElem?_getD]
    rw [hd];rfl
   obtain ⟨ad,ea,k0,k1,k2,k3,k4,k5⟩:=at_T41 (Kd.C_below HC.out HBw.out) (i : Int) (by omega) (by omega)
   cases ea
   rw [rdd] at k0 k1 k2 k3 k4 k5
   simp only [Int.toNat_natCast] at k0 k1 k2 k3 k4 k5
   have hii : (i : Int) < (e.length : Int):=by omega
   have SNX : Hid (runK cols (e.take (i + 1)) [] = mstep (fun d=>d.f0) (kNone cols) kOne kTwo (runK cols (e.take i) []) d):=hidF snx
   have slen : (runK cols (e.take i) []).length ≤ 4000:=Nat.le_trans sl (by omega)
   clear hd rdd snx sl
   rcases scs with ⟨t0,t1,t2⟩ | ⟨t0,t1,t1',a,t,t2,t3⟩ | ⟨t0,t1,a,b2,t,t2,t3⟩
   ·have hw0 : d.f0 ≠ 1 → 0 ≤ d.f1 ∧ d.f1 < (cols.length : Int):=fun h2=>by
     unfold takesE at t0
     split at t0
     ·rename_i h;rcases h with h | h
      ·exact absurd h.1 h2
      ·exact h.2
     ·split at t0
      ·cases t0
      ·split at t0 <;> cases t0
    have HSN : Hid (runK cols (e.take (i + 1)) [] = kNone cols d :: runK cols (e.take i) []):=hidF (SNX.out.trans t2)
    have HW0:=hidF hw0
    have c10 : decide (10 ≤ d.f0) = false:=decide_eq_false (by omega)
    have c3 : decide (3 ≤ d.f0) = false:=decide_eq_false (by omega)
    obtain ⟨y,hy⟩ : ∃ y,kNone cols d = y:=⟨_,rfl⟩
    have HE1 : Hid (∀ W,Below w.heap.size w W → Calls Tryz.prog 77 #[.agg #[.int .i64 d.f0,.int .i64 d.f1,.int .i64 d.f2.f0,.int .i64 d.f2.f1,.int .u64 d.f2.f2,.string d.f2.f3],.pointer (some ⟨rb,0,none⟩)] W fun en w'=>en = .returned (.agg #[.int .i64 y.of_,.bool y.null,.bool y.bad,.bool y.risk]) ∧ Below W.heap.size W w'):=hidF fun W h=>by rw [← hy];exact HEV.out.one W d h HW0.out
    rw [hy] at HSN
    clear hw0 t0 t1 t2 hy
    go_wp2_with (first
     | (go_at_call 77;((with_reducible refine (HE1.out _ (HBw.out.alloc HBw.out.size _)).mono ?_);rintro en w1 ⟨rfl,hb1⟩;have HK1:=hidF ((HK.out.al _).bl hb1);clear hb1))
     | (go_at_call 117;((with_reducible refine (pushK_c b W0 _ y w1 HK1.out (by simpa using slen)).mono ?_);rintro en w2 ⟨rfl,h2⟩;have HK2:=hidF h2;clear h2)))
    go_roundw
    case rel=>exact ⟨i + 1,by go_num,by omega,hidF (by rw [HSN.out,List.reverse_cons];exact HK2.out)⟩
    case measure=>simp [natOfI];omega
   ·have HSN : Hid (runK cols (e.take (i + 1)) [] = kOne d a :: t):=hidF (SNX.out.trans t3)
    have t2' : runK cols (e.take i) [] = a :: t:=t2
    have tl : t.length ≤ 3999:=by rw [t2'] at slen;simp at slen;omega
    have HKs : Hid (StK b W0 (t.reverse ++ [a]) wr):=hidF (by have:=HK.out;rw [t2'] at this;simpa using this)
    have c10 : decide (10 ≤ d.f0) = false:=decide_eq_false (by omega)
    have c3 : decide (3 ≤ d.f0) = true:=decide_eq_true (by omega)
    obtain ⟨y,hy⟩ : ∃ y,kOne d a = y:=⟨_,rfl⟩
    have HE2 : Hid (∀ W,Calls Tryz.prog 78 #[.agg #[.int .i64 d.f0,.int .i64 d.f1,.int .i64 d.f2.f0,.int .i64 d.f2.f1,.int .u64 d.f2.f2,.string d.f2.f3],.agg #[.int .i64 a.of_,.bool a.null,.bool a.bad,.bool a.risk]] W fun en w'=>en = .returned (.agg #[.int .i64 y.of_,.bool y.null,.bool y.bad,.bool y.risk]) ∧ Below W.heap.size W w'):=hidF fun W=>by rw [← hy];exact HEV.out.two W d a (takes_one t0)
    rw [hy] at HSN
    obtain ⟨W1,hW1⟩ : ∃ W1,wr.alloc (.cells #[.int .i64 d.f0,.int .i64 d.f1,.int .i64 d.f2.f0,.int .i64 d.f2.f1,.int .u64 d.f2.f2,.string d.f2.f3] 41) = W1:=⟨_,rfl⟩
    obtain ⟨D,hD⟩ : ∃ D,wr.heap.size = D:=⟨_,rfl⟩
    have hDb : D ≠ b:=by omega
    have hDz : D < W1.heap.size:=by rw [← hW1,← hD];simp
    have HK1:=hidF (show StK b W0 (t.reverse ++ [a]) W1.drew by rw [← hW1];exact (HKs.out.al _).bl (Below.refl _ _).drew)
    have m0 : W1.cell? ⟨D,0,none⟩ = some (.int .i64 d.f0):=by rw [← hW1,← hD];exact (blk_cell (heap_alloc_new _ _) 0).trans rfl
    have m1 : W1.cell? ⟨D,1,none⟩ = some (.int .i64 d.f1):=by rw [← hW1,← hD];exact (blk_cell (heap_alloc_new _ _) 1).trans rfl
    have m2 : W1.cell? ⟨D,2,none⟩ = some (.int .i64 d.f2.f0):=by rw [← hW1,← hD];exact (blk_cell (heap_alloc_new _ _) 2).trans rfl
    have m3 : W1.cell? ⟨D,3,none⟩ = some (.int .i64 d.f2.f1):=by rw [← hW1,← hD];exact (blk_cell (heap_alloc_new _ _) 3).trans rfl
    have m4 : W1.cell? ⟨D,4,none⟩ = some (.int .u64 d.f2.f2):=by rw [← hW1,← hD];exact (blk_cell (heap_alloc_new _ _) 4).trans rfl
    have m5 : W1.cell? ⟨D,5,none⟩ = some (.string d.f2.f3):=by rw [← hW1,← hD];exact (blk_cell (heap_alloc_new _ _) 5).trans rfl
    clear t0 t1 t1' t2 t2' t3 hy slen
    go_wp2_with fail
    clear hW1 hD
    go_region_with (first
     | (go_at_call 116;((with_reducible refine (popK_c b W0 _ a W1.drew HK1.out (by simp;omega)).mono ?_);rintro en w2 ⟨rfl,h2,s2⟩;have HK2:=hidF h2;have p0:=(s2.cell (k:=D) hDz hDb 0).trans m0;have p1:=(s2.cell (k:=D) hDz hDb 1).trans m1;have p2:=(s2.cell (k:=D) hDz hDb 2).trans m2;have p3:=(s2.cell (k:=D) hDz hDb 3).trans m3;have p4:=(s2.cell (k:=D) hDz hDb 4).trans m4;have p5:=(s2.cell (k:=D) hDz hDb 5).trans m5;clear h2 s2))
     | (go_at_call 78;((with_reducible refine (HE2.out _).mono ?_);rintro en w3 ⟨rfl,hb3⟩;have HK3:=hidF (HK2.out.bl hb3);clear hb3))
     | (go_at_call 117;((with_reducible refine (pushK_c b W0 _ y w3 HK3.out (by simp;omega)).mono ?_);rintro en w4 ⟨rfl,h4⟩;have HK4:=hidF h4;clear h4)))
    all_goals
     go_wp2_with fail
     go_roundw
     case rel=>exact ⟨i + 1,by go_num,by omega,hidF (by rw [HSN.out,List.reverse_cons];exact HK4.out)⟩
     case measure=>simp [natOfI];omega
   ·have HSN : Hid (runK cols (e.take (i + 1)) [] = kTwo d a b2 :: t):=hidF (SNX.out.trans t3)
    have t2' : runK cols (e.take i) [] = b2 :: a :: t:=t2
    have tl : t.length ≤ 3998:=by rw [t2'] at slen;simp at slen;omega
    have HKs : Hid (StK b W0 ((t.reverse ++ [a]) ++ [b2]) wr):=hidF (by have:=HK.out;rw [t2'] at this;simpa using this)
    have c10 : decide (10 ≤ d.f0) = true:=decide_eq_true (by omega)
    obtain ⟨y,hy⟩ : ∃ y,kTwo d a b2 = y:=⟨_,rfl⟩
    have HE3 : Hid (∀ W,Calls Tryz.prog 79 #[.agg #[.int .i64 d.f0,.int .i64 d.f1,.int .i64 d.f2.f0,.int .i64 d.f2.f1,.int .u64 d.f2.f2,.string d.f2.f3],.agg #[.int .i64 a.of_,.bool a.null,.bool a.bad,.bool a.risk],.agg #[.int .i64 b2.of_,.bool b2.null,.bool b2.bad,.bool b2.risk]] W fun en w'=>en = .returned (.agg #[.int .i64 y.of_,.bool y.null,.bool y.bad,.bool y.risk]) ∧ Below W.heap.size W w'):=hidF fun W=>by rw [← hy];exact HEV.out.three W d a b2 (takes_two t0)
    rw [hy] at HSN
    clear t0 t1 t2 t2' t3 hy slen
    go_wp2_with (first
     | (go_at_call 116;(fail_if_success (have:=w1));((with_reducible refine (popK_c b W0 _ b2 _ (HKs.out.al _) (by simp;omega)).mono ?_);rintro en w1 ⟨rfl,h1,s1⟩;have HK1:=hidF h1;have z1 : wr.heap.size < w1.heap.size:=(by have:=s1.size;simp at this;omega);have q0:=(s1.cell (k:=wr.heap.size) (by simp) (by omega) 0).trans ((blk_cell (heap_alloc_new _ _) 0).trans rfl);have q1:=(s1.cell (k:=wr.heap.size) (by simp) (by omega) 1).trans ((blk_cell (heap_alloc_new _ _) 1).trans rfl);have q2:=(s1.cell (k:=wr.heap.size) (by simp) (by omega) 2).trans ((blk_cell (heap_alloc_new _ _) 2).trans rfl);have q3:=(s1.cell (k:=wr.heap.size) (by simp) (by omega) 3).trans ((blk_cell (heap_alloc_new _ _) 3).trans rfl);have q4:=(s1.cell (k:=wr.heap.size) (by simp) (by omega) 4).trans ((blk_cell (heap_alloc_new _ _) 4).trans rfl);have q5:=(s1.cell (k:=wr.heap.size) (by simp) (by omega) 5).trans ((blk_cell (heap_alloc_new _ _) 5).trans rfl);clear h1 s1))
     | (go_at_call 116;((with_reducible refine (popK_c b W0 _ a _ (HK1.out.al _) (by simp;omega)).mono ?_);rintro en w2 ⟨rfl,h2,s2⟩;have HK2:=hidF h2;have z2 : w1.heap.size < w2.heap.size:=(by have:=s2.size;simp at this;omega);have p0:=(s2.cell (k:=wr.heap.size) (by simp;omega) (by omega) 0).trans (((below_box w1 _).cell (p:=⟨wr.heap.size,0,none⟩) z1).trans q0);have p1:=(s2.cell (k:=wr.heap.size) (by simp;omega) (by omega) 1).trans (((below_box w1 _).cell (p:=⟨wr.heap.size,1,none⟩) z1).trans q1);have p2:=(s2.cell (k:=wr.heap.size) (by simp;omega) (by omega) 2).trans (((below_box w1 _).cell (p:=⟨wr.heap.size,2,none⟩) z1).trans q2);have p3:=(s2.cell (k:=wr.heap.size) (by simp;omega) (by omega) 3).trans (((below_box w1 _).cell (p:=⟨wr.heap.size,3,none⟩) z1).trans q3);have p4:=(s2.cell (k:=wr.heap.size) (by simp;omega) (by omega) 4).trans (((below_box w1 _).cell (p:=⟨wr.heap.size,4,none⟩) z1).trans q4);have p5:=(s2.cell (k:=wr.heap.size) (by simp;omega) (by omega) 5).trans (((below_box w1 _).cell (p:=⟨wr.heap.size,5,none⟩) z1).trans q5);have x0:=(s2.cell (k:=w1.heap.size) (by simp) (by omega) 0).trans ((blk_cell (heap_alloc_new _ _) 0).trans rfl);have x1:=(s2.cell (k:=w1.heap.size) (by simp) (by omega) 1).trans ((blk_cell (heap_alloc_new _ _) 1).trans rfl);have x2:=(s2.cell (k:=w1.heap.size) (by simp) (by omega) 2).trans ((blk_cell (heap_alloc_new _ _) 2).trans rfl);have x3:=(s2.cell (k:=w1.heap.size) (by simp) (by omega) 3).trans ((blk_cell (heap_alloc_new _ _) 3).trans rfl);clear h2 s2 q0 q1 q2 q3 q4 q5;have nz1 : wr.heap.size < w2.heap.size:=by omega))
     | (go_at_call 79;((with_reducible refine (HE3.out _).mono ?_);rintro en w3 ⟨rfl,hb3⟩;have HK3:=hidF ((HK2.out.al _).bl hb3);clear hb3))
     | (go_at_call 117;((with_reducible refine (pushK_c b W0 _ y w3 HK3.out (by simp;omega)).mono ?_);rintro en w4 ⟨rfl,h4⟩;have HK4:=hidF h4;clear h4)))
    go_roundw
    case rel=>exact ⟨i + 1,by go_num,by omega,hidF (by rw [HSN.out,List.reverse_cons];exact HK4.out)⟩
    case measure=>simp [natOfI];omega
  ·have hie : i = e.length:=by omega
   have HKx : Hid (StK b W0 ([] ++ [x]) wr):=hidF (by
    have:=HK.out
    rw [hie,List.take_of_length_le (Nat.le_refl _),HX.out] at this
    simpa using this)
   have hii : ¬ (i : Int) < (e.length : Int):=by omega
   obtain ⟨u0,z0⟩:=ZC.out 0 (by omega)
   obtain ⟨u1,z1⟩:=ZC.out 1 (by omega)
   obtain ⟨u2,z2⟩:=ZC.out 2 (by omega)
   obtain ⟨u3,z3⟩:=ZC.out 3 (by omega)
   have hd0 : decide ((i : Int) < (e.length : Int)) = false:=decide_eq_false hii
   clear hie HK hlt hil
   go_wp2_with (go_at_call 116;((with_reducible refine (popK_c b W0 _ x _ HKx.out (by simp)).mono ?_);rintro en w2 ⟨rfl,h2,s2⟩;have HK2:=hidF h2;replace z0:=(h2.bel.cell (p:=⟨z,0,none⟩) hzb).trans z0;replace z1:=(h2.bel.cell (p:=⟨z,1,none⟩) hzb).trans z1;replace z2:=(h2.bel.cell (p:=⟨z,2,none⟩) hzb).trans z2;replace z3:=(h2.bel.cell (p:=⟨z,3,none⟩) hzb).trans z3;have y0:=(h2.bel.frozen (p:=⟨z,0,none⟩) hzb).trans (ZF.out 0);have y1:=(h2.bel.frozen (p:=⟨z,1,none⟩) hzb).trans (ZF.out 1);have y2:=(h2.bel.frozen (p:=⟨z,2,none⟩) hzb).trans (ZF.out 2);have y3:=(h2.bel.frozen (p:=⟨z,3,none⟩) hzb).trans (ZF.out 3);clear h2 s2))
   have HB:=hidF (HB0.out.trans (HK2.out.bel.mono hwb))
   exact bodyPost_ret (v:=.agg #[.int .i64 x.of_,.bool x.null,.bool x.bad,.bool x.risk]) (by simp [results,Tryz.results76,go_sem, *]) rfl ⟨rfl,(by repeat (first | (with_reducible exact HB.out) | (with_reducible exact Below.refl _ _) | (with_reducible refine below_al ?_ _) | (with_reducible refine below_drewN ?_ _) | (with_reducible refine Below.drew ?_) | (with_reducible refine below_via (by assumption) ?_) | (with_reducible refine below_sc ?_ ?_ _;· (first | (simp;done) | (simp;omega) | omega))))⟩
end Go.Proofs.YtakcjiinchghaaaGreatDoor
end
section
namespace Go.Proofs.YtakcjiinchghaaaGreatDoor
set_option linter.unusedVariables false
set_option linter.unusedSimpArgs false
open Go.RowKit Go.Proofs.YtakcjiinchghaaaGreatDoorW.PrintWords Go.Proofs.YtakcjiinchghaaaGreatDoorW.PrintLast PRW
def xrSound.f (k n f : Int) (t : ByteArray) : Option Bool:=if 0 ≤ f ∧ f < 18446744073709551616 then some (soundV k n f t) else none
theorem xrSound.calls (k n f : Int) (t : ByteArray) (r : Bool) (w : World) (h : xrSound.f k n f t = some r) :
  Calls Tryz.prog 65 #[.agg #[.int .i64 k,.int .i64 n,.int .u64 f,.string t]] w fun e w'=>e = .returned (.bool r) ∧ Below w.heap.size w w':=by
 obtain ⟨hn,rfl⟩:=ext_of h
 exact rSound_c k n f t w hn
end Go.Proofs.YtakcjiinchghaaaGreatDoor
end
