/- a part of the claim: what the card leans on, out of the texts RQ1, RQP, ZP3, ZW1, ZW2, ZW3, RQ6 (put together by wip/tools/shake.py). -/
import Derived.Test.YthpkjkcfhipjhaaGreatDoorSS2
import Derived.Test.YthpkjkcfhipjhaaGreatDoorSS4
import Derived.Test.YthpkjkcfhipjhaaGreatDoorSS5
import Derived.Test.YthpkjkcfhipjhaaGreatDoorSS6
import Derived.Test.YthpkjkcfhipjhaaGreatDoorSS7
import Derived.Laws.Rows
import Derived.BigRegion
import Derived.Shelf.RegionOpenPlain
import Derived.BigQuiet
import Derived.Deep.QuietTactic
section
namespace Go.Proofs.YthpkjkcfhipjhaaGreatDoor
set_option linter.unusedVariables false
set_option linter.unusedSimpArgs false
open Go.RowKit Go.Proofs.YthpkjkcfhipjhaaGreatDoorW.PrintWords Go.Proofs.YthpkjkcfhipjhaaGreatDoorW.PrintLast PRW
theorem w64k {n : Int} (h0 : -9223372036854775808 ≤ n) (h1 : n ≤ 9223372036854775807) : wrap64 n = n:=by unfold wrap64;omega
/-- two values of the program are not the same -/
def neqS (x y : S64) : Bool:=(!(x.f0 == y.f0) || (!(x.f1 == y.f1) || (!(x.f2 == y.f2) || (!(x.f3.toList == y.f3.toList)))))
theorem neqS_iff (x y : S64) : neqS x y = true ↔ x ≠ y:=by
 unfold neqS
 simp only [Bool.or_eq_true,Bool.not_eq_true',beq_eq_false_iff_ne,ne_eq]
 constructor
 ·rintro h rfl
  simp at h
 ·intro h
  by_cases h0 : x.f0 = y.f0
  ·by_cases h1 : x.f1 = y.f1
   ·by_cases h2 : x.f2 = y.f2
    ·right;right;right
     intro h3
     have h3:=(toList_inj _ _).1 h3
     apply h
     cases x;cases y;simp_all
    ·exact .inr (.inr (.inl h2))
   ·exact .inr (.inl h1)
  ·exact .inl h0
theorem neqS_self (x : S64) : neqS x x = false:=by
 cases h : neqS x x
 ·rfl
 ·exact absurd rfl ((neqS_iff x x).1 h)
theorem rd_at (L : List S64) (i : Nat) (h : i < L.length) : rd_T64 L (i : Int) = L[i]:=by unfold rd_T64;simp [h]
instance : DecidableEq S64:=fun x y=>decidable_of_iff (neqS x y = false) (by
 constructor
 ·intro h
  apply Classical.byContradiction
  intro hn
  rw [(neqS_iff x y).2 hn] at h;cases h
 ·rintro rfl;exact neqS_self x)
theorem same_ev (l m : List S64) (hl : l.length ≤ 9223372036854775807) : Ev (fun k=>freshetref02_Same.f k l m) (decide (l = m)):=by
 by_cases hlen : l.length = m.length
 ·have main : ∀ d i : Nat,i + d = l.length → l.take i = m.take i → Ev (fun k=>freshetref02_Same.l0 k l m (i : Int)) (decide (l = m)):=by
   intro d
   induction d with
   | zero =>
    intro i hi ht
    have he : l = m:=by
     rw [List.take_of_length_le (by omega),List.take_of_length_le (by omega)] at ht;exact ht
    rw [decide_eq_true he]
    refine Ev.step (f:=fun _=>some true) (fun k=>?_) (Ev.now _)
    simp only [freshetref02_Same.l0]
    rw [if_neg (by omega)]
   | succ d ih =>
    intro i hi ht
    have h1 : i < l.length:=by omega
    have h2 : i < m.length:=by omega
    by_cases hx : l[i] = m[i]
    ·have hn : neqS (rd_T64 l (i : Int)) (rd_T64 m (i : Int)) = false:=by rw [rd_at l i h1,rd_at m i h2,hx];exact neqS_self _
     refine Ev.step (fun k=>?_) (ih (i + 1) (by omega) (by rw [List.take_succ_eq_append_getElem h1,List.take_succ_eq_append_getElem h2,ht,hx]))
     simp only [freshetref02_Same.l0]
     rw [if_pos (by omega),if_pos (by omega),if_pos (by omega)]
     unfold neqS at hn
     rw [hn,if_neg Bool.false_ne_true,w64k (by omega) (by omega)]
     rfl
    ·have hn : neqS (rd_T64 l (i : Int)) (rd_T64 m (i : Int)) = true:=by rw [rd_at l i h1,rd_at m i h2];exact (neqS_iff _ _).2 hx
     have hne : l ≠ m:=by rintro rfl;exact hx rfl
     rw [decide_eq_false hne]
     refine Ev.step (f:=fun _=>some false) (fun k=>?_) (Ev.now _)
     simp only [freshetref02_Same.l0]
     rw [if_pos (by omega),if_pos (by omega),if_pos (by omega)]
     unfold neqS at hn
     rw [hn,if_pos rfl]
  have:=main l.length 0 (by omega) (by simp)
  refine Ev.congr (fun k=>?_) this
  simp only [freshetref02_Same.f]
  rw [if_pos (by omega)];rfl
 ·have hne : l ≠ m:=by rintro rfl;exact hlen rfl
  rw [decide_eq_false hne]
  refine Ev.congr (f:=fun _=>some false) (fun k=>?_) (Ev.now _)
  simp only [freshetref02_Same.f]
  rw [if_neg (by omega)]
theorem map_ofV_toV (l : List S64) : (l.map toV).map ofV = l:=by
 rw [List.map_map]
 exact List.map_id'' (fun x=>ofV_toV x) l
theorem sound_all {l : List S64} (h : soundL l = true) (hr : rngL l = true) : (∀ x ∈ l.map toV,okV x) ∧ l.length ≤ 1024:=by
 unfold soundL at h
 rw [Bool.and_eq_true,decide_eq_true_eq] at h
 refine ⟨fun x hx=>?_,h.1⟩
 obtain ⟨y,hy,rfl⟩:=List.mem_map.1 hx
 have h1:=List.all_eq_true.1 h.2 y hy
 have h2:=(rngV_iff y).1 (List.all_eq_true.1 hr y hy)
 exact ⟨h1,h2.1,h2.2⟩
theorem dec_enc (l : List V) (h : ∀ x ∈ l,okV x) (hl : l.length ≤ 1024) : decB (encR l) = .ok l:=by
 have:=decR_enc l [] ((encR l).length + 1) h (by simpa using hl) (by have:=enc_len_le l;omega)
 simpa [decB] using this
end Go.Proofs.YthpkjkcfhipjhaaGreatDoor
end
section
namespace Go.Proofs.YthpkjkcfhipjhaaGreatDoor
set_option linter.unusedVariables false
set_option linter.unusedSimpArgs false
open Go.RowKit Go.Proofs.YthpkjkcfhipjhaaGreatDoorW.PrintWords Go.Proofs.YthpkjkcfhipjhaaGreatDoorW.PrintLast PRW
theorem take_all {α : Type} (p : α → Bool) (l : List α) (i : Nat) (h : i < l.length) (ht : (l.take i).all p = true) (hp : p l[i] = true) : (l.take (i + 1)).all p = true:=by
 rw [List.take_succ_eq_append_getElem h,List.all_append,ht];simp [hp]
theorem not_all {α : Type} (p : α → Bool) (l : List α) (i : Nat) (h : i < l.length) (hp : p l[i] = false) : l.all p = false:=by
 rw [List.all_eq_false];exact ⟨l[i],List.getElem_mem h,by simp [hp]⟩
end Go.Proofs.YthpkjkcfhipjhaaGreatDoor
end
section
namespace Go.Proofs.YthpkjkcfhipjhaaGreatDoor
set_option linter.unusedVariables false
set_option linter.unusedSimpArgs false
open Go.RowKit Go.Proofs.YthpkjkcfhipjhaaGreatDoorW.PrintWords Go.Proofs.YthpkjkcfhipjhaaGreatDoorW.PrintLast PRW
theorem zcmp_cb {a b : List S64} (sa : soundL a = true) (ra : rngL a = true) (sb : soundL b = true) (rb : rngL b = true) : cmpLS a b = Lib.compareBytes (encR (a.map toV)) (encR (b.map toV)):=by
 unfold cmpLS
 rw [sa,sb]
 exact (enc_order _ _ (sound_all sa ra).1 (sound_all sb rb).1).symm
theorem zcmp_anti {a b : List S64} (sa : soundL a = true) (ra : rngL a = true) (sb : soundL b = true) (rb : rngL b = true) : cmpLS a b = -(cmpLS b a):=by
 rw [zcmp_cb sa ra sb rb,zcmp_cb sb rb sa ra];exact cb_anti _ _
theorem zcmp_trans {a b c : List S64} (sa : soundL a = true) (ra : rngL a = true) (sb : soundL b = true) (rb : rngL b = true) (sc : soundL c = true) (rc : rngL c = true) (h1 : cmpLS a b ≤ 0) (h2 : cmpLS b c ≤ 0) : cmpLS a c ≤ 0:=by
 rw [zcmp_cb sa ra sb rb] at h1
 rw [zcmp_cb sb rb sc rc] at h2
 rw [zcmp_cb sa ra sc rc]
 exact cb_trans _ _ _ h1 h2
theorem zcmp_same {a b : List S64} (sa : soundL a = true) (ra : rngL a = true) (sb : soundL b = true) (rb : rngL b = true) : cmpLS a b = 0 ↔ a = b:=by
 rw [zcmp_cb sa ra sb rb,cb_same]
 constructor
 ·intro h
  obtain ⟨oka,la⟩:=sound_all sa ra
  obtain ⟨okb,lb⟩:=sound_all sb rb
  have h1:=dec_enc _ oka (by rw [List.length_map];exact la)
  have h2:=dec_enc _ okb (by rw [List.length_map];exact lb)
  rw [h,h2] at h1
  have h3 : b.map toV = a.map toV:=by injection h1
  have h4:=congrArg (fun z=>z.map ofV) h3
  rw [map_ofV_toV,map_ofV_toV] at h4
  exact h4.symm
 ·rintro rfl;rfl
end Go.Proofs.YthpkjkcfhipjhaaGreatDoor
end
section
namespace Go.Proofs.YthpkjkcfhipjhaaGreatDoor
set_option linter.unusedVariables false
set_option linter.unusedSimpArgs false
open Go.RowKit Go.Proofs.YthpkjkcfhipjhaaGreatDoorW.PrintWords Go.Proofs.YthpkjkcfhipjhaaGreatDoorW.PrintLast PRW PZA
/-- an entry as it lies: its row's address and room, and what it means in the world w0 -/
structure Ent (w0 : World) where
 A : Option Addr
 c : Nat
 x : S48
 le : x.f0.length ≤ c
 lies : Kd.C k64 w0 A x.f0.length x.f0
 rng : rngL x.f0 = true
 snd : soundL x.f0 = true
 fair : I64 x.f1
theorem nil_C (w0 : World) : Kd.C k64 w0 none 0 ([] : List S64):=⟨rfl,by decide,fun h=>absurd h (Nat.lt_irrefl 0)⟩
instance (w0 : World) : Inhabited (Ent w0):=⟨⟨none,0,⟨[],0⟩,Nat.le_refl _,nil_C w0,rfl,rfl,by unfold I64;decide⟩⟩
section
variable {w0 : World}
def Ent.enc (e : Ent w0) : List Value:=[.slice e.A e.x.f0.length e.c,.int .i64 e.x.f1]
def Ent.cf (e f : Ent w0) : Int:=cmpLS e.x.f0 f.x.f0
theorem ent_ord : OrdC (Ent.cf (w0:=w0)):=⟨fun x y=>zcmp_anti x.snd x.rng y.snd y.rng,fun x y z=>zcmp_trans x.snd x.rng y.snd y.rng z.snd z.rng⟩
def flatE (xs : List (Ent w0)) : List Value:=xs.flatMap Ent.enc
theorem flatE_cons (e : Ent w0) (xs : List (Ent w0)) : flatE (e :: xs) = .slice e.A e.x.f0.length e.c :: .int .i64 e.x.f1 :: flatE xs:=rfl
theorem flatE_len : ∀ xs : List (Ent w0),(flatE xs).length = xs.length * 2
 | []=>rfl
 | e :: xs=>by rw [flatE_cons,List.length_cons,List.length_cons,flatE_len xs,List.length_cons];omega
theorem flatE_get0 : ∀ (xs : List (Ent w0)) (i : Nat),i < xs.length → (flatE xs)[i * 2]? = some (.slice (gx xs i).A (gx xs i).x.f0.length (gx xs i).c)
 | [],i,h=>absurd h (Nat.not_lt_zero _)
 | e :: xs,0,_=>rfl
 | e :: xs,i + 1,h=>by
  have:=flatE_get0 xs i (by simpa using h)
  rw [flatE_cons,show (i + 1) * 2 = i * 2 + 1 + 1 by omega,List.getElem?_cons_succ,List.getElem?_cons_succ,this];rfl
theorem flatE_get1 : ∀ (xs : List (Ent w0)) (i : Nat),i < xs.length → (flatE xs)[i * 2 + 1]? = some (.int .i64 (gx xs i).x.f1)
 | [],i,h=>absurd h (Nat.not_lt_zero _)
 | e :: xs,0,_=>rfl
 | e :: xs,i + 1,h=>by
  have:=flatE_get1 xs i (by simpa using h)
  rw [flatE_cons,show (i + 1) * 2 + 1 = i * 2 + 1 + 1 + 1 by omega,List.getElem?_cons_succ,List.getElem?_cons_succ,this];rfl
theorem flatE_set : ∀ (xs : List (Ent w0)) (i : Nat) (e : Ent w0),((flatE xs).set (i * 2) (.slice e.A e.x.f0.length e.c)).set (i * 2 + 1) (.int .i64 e.x.f1) = flatE (xs.set i e)
 | [],i,e=>rfl
 | a :: xs,0,e=>rfl
 | a :: xs,i + 1,e=>by
  have:=flatE_set xs i e
  rw [flatE_cons,show (i + 1) * 2 = i * 2 + 1 + 1 by omega,List.set_cons_succ,List.set_cons_succ,List.set_cons_succ,List.set_cons_succ,this,List.set_cons_succ,flatE_cons]
/-- block b of the world W holds the entries xs; what is older than w0 is as it was -/
structure SB (w0 : World) (b : Nat) (xs : List (Ent w0)) (W : World) : Prop where
 bel : Below w0.heap.size w0 W
 new : w0.heap.size ≤ b
 blk : ∃ rest,W.heap[b]? = some (.cells (flatE xs ++ rest).toArray 48 (0,0))
theorem SB.lt {b : Nat} {xs : List (Ent w0)} {W : World} (h : SB w0 b xs W) : b < W.heap.size:=h.blk.elim fun _ k=>heap_lt k
theorem SB.below {b : Nat} {xs : List (Ent w0)} {W W' : World} (h : SB w0 b xs W) (k : Below W.heap.size W W') : SB w0 b xs W' :=
 ⟨h.bel.trans (k.mono h.bel.size),h.new,h.blk.elim fun r e=>⟨r,(k.block b h.lt).trans e⟩⟩
theorem SB.drew {b : Nat} {xs : List (Ent w0)} {W : World} (h : SB w0 b xs W) : SB w0 b xs W.drew:=h.below (Below.refl _ _).drew
theorem SB.c0 {b : Nat} {xs : List (Ent w0)} {W : World} (h : SB w0 b xs W) (i : Nat) (hi : i < xs.length) : W.cell? ⟨b,i * 2,none⟩ = some (.slice (gx xs i).A (gx xs i).x.f0.length (gx xs i).c):=by
 have e:=flatE_get0 xs i hi
 have hl:=flatE_len xs
 obtain ⟨r,k⟩:=h.blk
 simp only [World.cell?,k,List.getElem?_toArray]
 rw [List.getElem?_append_left (by omega),e];rfl
theorem SB.c1 {b : Nat} {xs : List (Ent w0)} {W : World} (h : SB w0 b xs W) (i : Nat) (hi : i < xs.length) : W.cell? ⟨b,i * 2 + 1,none⟩ = some (.int .i64 (gx xs i).x.f1):=by
 have e:=flatE_get1 xs i hi
 have hl:=flatE_len xs
 obtain ⟨r,k⟩:=h.blk
 simp only [World.cell?,k,List.getElem?_toArray]
 rw [List.getElem?_append_left (by omega),e];rfl
theorem SB.fr {b : Nat} {xs : List (Ent w0)} {W : World} (h : SB w0 b xs W) (o : Nat) : W.frozen? ⟨b,o,none⟩ = false:=by
 obtain ⟨r,k⟩:=h.blk
 simp [World.frozen?,k]
/-- the stores of an exchange -/
def swW (W : World) (b i j : Nat) (e f : Ent w0) : World :=
 (((W.setCell ⟨b,i * 2,none⟩ (.slice f.A f.x.f0.length f.c)).setCell ⟨b,i * 2 + 1,none⟩ (.int .i64 f.x.f1)).setCell ⟨b,j * 2,none⟩ (.slice e.A e.x.f0.length e.c)).setCell ⟨b,j * 2 + 1,none⟩ (.int .i64 e.x.f1)
theorem SB.swap {b : Nat} {xs : List (Ent w0)} {W : World} (h : SB w0 b xs W) (i j : Nat) (hi : i < xs.length) (hj : j < xs.length) : SB w0 b (swp xs i j) (swW W b i j (gx xs i) (gx xs j)):=by
 obtain ⟨r,hblk⟩:=h.blk
 refine ⟨?_,h.new,r, ?_⟩
 ·exact (((h.bel.setCell h.new _).setCell h.new _).setCell h.new _).setCell h.new _
 ·unfold swW
  have h1:=heap_setCell_same W b (i * 2) _ _ (.slice (gx xs j).A (gx xs j).x.f0.length (gx xs j).c) hblk
  have h2:=heap_setCell_same _ b (i * 2 + 1) _ _ (.int .i64 (gx xs j).x.f1) h1
  have h3:=heap_setCell_same _ b (j * 2) _ _ (.slice (gx xs i).A (gx xs i).x.f0.length (gx xs i).c) h2
  have h4:=heap_setCell_same _ b (j * 2 + 1) _ _ (.int .i64 (gx xs i).x.f1) h3
  rw [h4]
  simp only [List.setIfInBounds_toArray]
  have hl:=flatE_len xs
  have hl2:=flatE_len (xs.set i (gx xs j))
  rw [List.set_append_left _ _ (by omega),List.set_append_left _ _ (by simp;omega),flatE_set,List.set_append_left _ _ (by rw [hl2,List.length_set];omega),List.set_append_left _ _ (by simp only [List.length_set];rw [hl2,List.length_set];omega),flatE_set]
  rfl
end
end Go.Proofs.YthpkjkcfhipjhaaGreatDoor
end
section
namespace Go.Proofs.YthpkjkcfhipjhaaGreatDoor
set_option linter.unusedVariables false
set_option linter.unusedSimpArgs false
open Go.RowKit Go.Proofs.YthpkjkcfhipjhaaGreatDoorW.PrintWords Go.Proofs.YthpkjkcfhipjhaaGreatDoorW.PrintLast PRW PZA
set_option maxRecDepth 1000000 in
set_option maxHeartbeats 4000000 in
theorem swapRange_c {w0 : World} (b cap : Nat) (xs : List (Ent w0)) (w : World) (h : SB w0 b xs w) (x y n : Nat) (hxy : x + n ≤ y) (hl : y + n ≤ xs.length) (hs : xs.length ≤ 1000000) (cv : Value) :
  Calls Tryz.prog 137 #[.slice (some ⟨b,0,none⟩) xs.length cap,.int .i64 x,.int .i64 y,.int .i64 n,cv] w fun e w'=>e = .returned (.tuple #[]) ∧ ∃ ys,SB w0 b ys w' ∧ SwR x y n xs ys ∧ Moved x (y + n) xs ys:=by
 have hu:=Tryz.underlying48
 have HS:=hidF h
 clear h
 go_enter Tryz.func137,Tryz.ntmps137
 go_wp2
 go_loopw [10] (fun v wr=>∃ (c : Nat) (ys : List (Ent w0)),v = Value.int .i64 c ∧ c ≤ n ∧ SB w0 b ys wr ∧ Hid (SwR x y c xs ys) ∧ Hid (Moved x (y + n) xs ys)) (fun v _=>n - natOf v)
 case atStart=>exact ⟨0,xs,rfl,by omega,HS.out,hidF (SwR.zero _ _ _),hidF (Moved.refl _ _ _)⟩
 case round =>
  obtain ⟨c,ys,rfl,hcn,HB,HW,HM⟩:=hrel
  have hlen:=HM.out.len
  by_cases hlt : c < n
  ·have hd : decide ((c : Int) < (n : Int)) = true:=decide_eq_true (by omega)
   have hi : x + c < ys.length:=by omega
   have hj : y + c < ys.length:=by omega
   have HSW:=hidF (HB.swap (x + c) (y + c) hi hj)
   have HW2:=hidF (HW.out.succ (by omega) hj)
   have HM2:=hidF (HM.out.trans (Moved.swap (a:=x) (b:=y + n) ys (x + c) (y + c) (by omega) (by omega) (by omega) (by omega) (by omega)))
   have i0:=HB.c0 _ hi
   have i1:=HB.c1 _ hi
   have j0:=HB.c0 _ hj
   have j1:=HB.c1 _ hj
   have f0:=HB.fr
   have w1 : IntKind.i64.wrap ((x : Int) + (c : Int)) = ((x + c : Nat) : Int):=by rw [IntKind.wrap_i64];omega
   have w2 : IntKind.i64.wrap ((y : Int) + (c : Int)) = ((y + c : Nat) : Int):=by rw [IntKind.wrap_i64];omega
   have b1 : decide (((x + c : Nat) : Int) < (xs.length : Int)) = true:=decide_eq_true (by omega)
   have b2 : decide (((y + c : Nat) : Int) < (xs.length : Int)) = true:=decide_eq_true (by omega)
   have b3 : x + c < xs.length:=by omega
   have b4 : y + c < xs.length:=by omega
   generalize hgi : gx ys (x + c) = ei at *
   generalize hgj : gx ys (y + c) = ej at *
   generalize hp : x + c = p at *
   generalize hq : y + c = q at *
   have HB2:=hidF HB
   clear HB
   go_wp2_with fail
   go_region
   all_goals go_wp2
   go_roundw
   case rel=>exact ⟨c + 1,swp ys p q,rfl,by omega,HSW.out.drew,HW2,HM2⟩
   case measure=>simp [natOf];omega
  ·have hce : c = n:=by omega
   subst hce
   have hd : decide ((c : Int) < (c : Int)) = false:=decide_eq_false (by omega)
   go_wp2
   go_end0
   exact ⟨rfl,ys,HB,HW.out,HM.out⟩
end Go.Proofs.YthpkjkcfhipjhaaGreatDoor
end
section
namespace Go.Proofs.YthpkjkcfhipjhaaGreatDoor
set_option linter.unusedVariables false
set_option linter.unusedSimpArgs false
open Go.RowKit Go.Proofs.YthpkjkcfhipjhaaGreatDoorW.PrintWords Go.Proofs.YthpkjkcfhipjhaaGreatDoorW.PrintLast PRW PZA
set_option maxRecDepth 1000000 in
set_option maxHeartbeats 4000000 in
theorem rotate_c {w0 : World} (b cap : Nat) (xs : List (Ent w0)) (w : World) (h : SB w0 b xs w) (s m e : Nat) (hsm : s < m) (hme : m < e) (hl : e ≤ xs.length) (hs : xs.length ≤ 1000000) (cv : Value) :
  Calls Tryz.prog 122 #[.slice (some ⟨b,0,none⟩) xs.length cap,.int .i64 s,.int .i64 m,.int .i64 e,cv] w fun r w'=>r = .returned (.tuple #[]) ∧ ∃ ys,SB w0 b ys w' ∧ Rot s m e xs ys ∧ Moved s e xs ys:=by
 have HS:=hidF h
 clear h
 have w1 : IntKind.i64.wrap ((m : Int) - (s : Int)) = ((m - s : Nat) : Int):=by rw [IntKind.wrap_i64];omega
 have w2 : IntKind.i64.wrap ((e : Int) - (m : Int)) = ((e - m : Nat) : Int):=by rw [IntKind.wrap_i64];omega
 go_enter Tryz.func122,Tryz.ntmps122
 go_wp2
 go_loopw [10,11] (fun v10 v11 wr=>∃ (i j : Nat) (ys : List (Ent w0)),v10 = Value.int .i64 i ∧ v11 = Value.int .i64 j ∧ 0 < i ∧ 0 < j ∧ i ≤ m - s ∧ j ≤ e - m ∧ SB w0 b ys wr ∧ Hid (RotI s m e i j xs ys) ∧ Hid (Moved s e xs ys)) (fun v10 v11 _=>natOf v10 + natOf v11)
 case atStart=>exact ⟨m - s,e - m,xs,rfl,rfl,by omega,by omega,by omega,by omega,HS.out,hidF (RotI.start _ _ _ _ (by omega) (by omega)),hidF (Moved.refl _ _ _)⟩
 case round =>
  obtain ⟨i,j,ys,rfl,rfl,hi,hj,hi2,hj2,HB,HR,HM⟩:=hrel
  have hlen:=HM.out.len
  have HB2:=hidF HB
  have v1 : IntKind.i64.wrap ((m : Int) - (i : Int)) = ((m - i : Nat) : Int):=by rw [IntKind.wrap_i64];omega
  have hne : ((i : Int) != (j : Int)) = !decide (i = j):=by
   by_cases h : i = j
   ·rw [h];simp
   ·rw [decide_eq_false h];simp;omega
  by_cases hij : i = j
  ·subst hij
   have hn : ((i : Int) != (i : Int)) = false:=by simp
   have C:=hidF (swapRange_c b cap ys wr HB (m - i) m i (by omega) (by omega) (by omega) cv)
   rw [hlen] at C
   clear HB hne
   go_wp2_with (go_at_call 137;(with_reducible refine C.out.mono ?_);rintro r w3 ⟨rfl,zs,hB,hW,hM⟩)
   go_end0
   exact ⟨rfl,zs,hB,HR.out.done (by omega) hW,HM.out.trans (hM.wide (by omega) (by omega))⟩
  ·have hn : ((i : Int) != (j : Int)) = true:=by rw [hne,decide_eq_false hij];rfl
   clear hne
   by_cases hgt : j < i
   ·have hg : decide ((i : Int) > (j : Int)) = true:=decide_eq_true (by omega)
    have hg' : decide ((j : Int) < (i : Int)) = true:=decide_eq_true (by omega)
    have v2 : IntKind.i64.wrap ((i : Int) - (j : Int)) = ((i - j : Nat) : Int):=by rw [IntKind.wrap_i64];omega
    have C:=hidF (swapRange_c b cap ys wr HB (m - i) m j (by omega) (by omega) (by omega) cv)
    rw [hlen] at C
    clear HB
    go_wp2_with (go_at_call 137;(with_reducible refine C.out.mono ?_);rintro r w3 ⟨rfl,zs,hB,hW,hM⟩)
    go_roundw
    case rel=>exact ⟨i - j,j,zs,rfl,rfl,by omega,by omega,by omega,by omega,hB,hidF (HR.out.left (by omega) hgt hW),hidF (HM.out.trans (hM.wide (by omega) (by omega)))⟩
    case measure=>simp [natOf];omega
   ·have hg : decide ((i : Int) > (j : Int)) = false:=decide_eq_false (by omega)
    have hg' : decide ((j : Int) < (i : Int)) = false:=decide_eq_false (by omega)
    have v2 : IntKind.i64.wrap ((j : Int) - (i : Int)) = ((j - i : Nat) : Int):=by rw [IntKind.wrap_i64];omega
    obtain ⟨mj,hmj⟩ : ∃ mj,m + j = mj:=⟨_,rfl⟩
    have v3 : IntKind.i64.wrap ((m : Int) + (j : Int)) = (mj : Int):=by rw [IntKind.wrap_i64];omega
    have v4 : IntKind.i64.wrap ((mj : Int) - (i : Int)) = ((mj - i : Nat) : Int):=by rw [IntKind.wrap_i64];omega
    have C:=hidF (swapRange_c b cap ys wr HB (m - i) (mj - i) i (by omega) (by omega) (by omega) cv)
    rw [hlen] at C
    clear HB
    go_wp2_with (go_at_call 137;(with_reducible refine C.out.mono ?_);rintro r w3 ⟨rfl,zs,hB,hW,hM⟩)
    go_roundw
    case rel=>exact ⟨i,j - i,zs,rfl,rfl,by omega,by omega,by omega,by omega,hB,hidF (HR.out.right (by omega) (by omega) (by rw [hmj];exact hW)),hidF (HM.out.trans (hM.wide (by omega) (by omega)))⟩
    case measure=>simp [natOf];omega
end Go.Proofs.YthpkjkcfhipjhaaGreatDoor
end
section
namespace Go.Proofs.YthpkjkcfhipjhaaGreatDoor
set_option linter.unusedVariables false
set_option linter.unusedSimpArgs false
open Go.RowKit Go.Proofs.YthpkjkcfhipjhaaGreatDoorW.PrintWords Go.Proofs.YthpkjkcfhipjhaaGreatDoorW.PrintLast PRW
theorem soundL_iff (l : List S64) : soundL l = (decide (l.length ≤ 1024) && l.all fun x=>soundV x.f0 x.f1 x.f2 x.f3):=rfl
theorem rsound_ev (l : List S64) (hr : rngL l = true) : Ev (fun k=>freshetref02_Sound.f k l) (soundL l):=by
 have main : ∀ d i : Nat,i + d = l.length → i ≤ 1024 → ((l.take i).all fun x=>soundV x.f0 x.f1 x.f2 x.f3) = true → Ev (fun k=>freshetref02_Sound.l0 k l (i : Int)) (soundL l):=by
  intro d
  induction d with
  | zero =>
   intro i hi h1 ht
   rw [List.take_of_length_le (by omega)] at ht
   have e : soundL l = true:=by rw [soundL_iff,ht,decide_eq_true (by omega)];rfl
   rw [e]
   refine Ev.step (f:=fun _=>some true) (fun k=>?_) (Ev.now _)
   simp only [freshetref02_Sound.l0]
   rw [if_neg (by omega)]
  | succ d ih =>
   intro i hi h1 ht
   have hl : i < l.length:=by omega
   by_cases hb : 1024 ≤ i
   ·have e : soundL l = false:=by rw [soundL_iff,decide_eq_false (by omega)];rfl
    rw [e]
    refine Ev.step (f:=fun _=>some false) (fun k=>?_) (Ev.now _)
    simp only [freshetref02_Sound.l0]
    rw [if_pos (by omega),if_pos (by omega)]
   ·have hu : U64 (l[i]).f2:=rngL_U hr _ (List.getElem_mem hl)
    have hx : xrSound.f (l[i]).f0 (l[i]).f1 (l[i]).f2 (l[i]).f3 = some (soundV (l[i]).f0 (l[i]).f1 (l[i]).f2 (l[i]).f3):=by unfold xrSound.f;exact if_pos hu
    cases hs : soundV (l[i]).f0 (l[i]).f1 (l[i]).f2 (l[i]).f3
    ·have e : soundL l = false:=by rw [soundL_iff,not_all _ l i hl hs,Bool.and_false]
     rw [e]
     refine Ev.step (f:=fun _=>some false) (fun k=>?_) (Ev.now _)
     simp only [freshetref02_Sound.l0]
     rw [if_pos (by omega),if_neg (by omega),if_pos (by omega),rd_at l i hl,hx,hs,Option.bind_some,if_neg Bool.false_ne_true]
    ·refine Ev.step (fun k=>?_) (ih (i + 1) (by omega) (by omega) (take_all _ _ _ hl ht hs))
     simp only [freshetref02_Sound.l0]
     rw [if_pos (by omega),if_neg (by omega),if_pos (by omega),rd_at l i hl,hx,hs,Option.bind_some,if_pos rfl,w64k (by omega) (by omega)]
     rfl
 exact main l.length 0 (by omega) (by omega) rfl
theorem rcmp_ev (l m : List S64) (hl : rngL l = true) (hm : rngL m = true) : Ev (fun k=>freshetref02_Compare.f k l m) (cmpLS l m):=by
 have J1 : Ev (fun k=>freshetref02_Compare.j0 k l m true) (0 : Int):=by
  refine Ev.step (f:=fun _=>some 0) (fun k=>?_) (Ev.now _)
  simp only [freshetref02_Compare.j0,if_true]
 cases hs : soundL l
 ·have e : cmpLS l m = 0:=by unfold cmpLS;rw [hs];rfl
  rw [e]
  have h:=rsound_ev l hl
  rw [hs] at h
  refine Ev.bind h (Ev.congr (fun k=>?_) J1)
  rw [if_neg Bool.false_ne_true]
 ·have h:=rsound_ev l hl
  rw [hs] at h
  have h':=rsound_ev m hm
  cases hs' : soundL m
  ·have e : cmpLS l m = 0:=by unfold cmpLS;rw [hs,hs'];rfl
   rw [e]
   rw [hs'] at h'
   refine Ev.bind h (Ev.congr (fun k=>?_) (Ev.bind (f:=fun k t=>freshetref02_Compare.j0 k l m (!t)) h' J1))
   rw [if_pos rfl]
  ·rw [hs'] at h'
   have e : cmpLS l m = cmpL (l.map toV) (m.map toV):=by unfold cmpLS;rw [hs,hs'];rfl
   rw [e]
   have nl:=(sound_all hs hl).2
   have nm:=(sound_all hs' hm).2
   have main : ∀ d i : Nat,i + d = l.length → i ≤ m.length → Ev (fun k=>freshetref02_Compare.l0 k l m (i : Int)) (cmpL ((l.drop i).map toV) ((m.drop i).map toV)):=by
    intro d
    induction d with
    | zero =>
     intro i hi h1
     have e0 : l.drop i = []:=List.drop_of_length_le (by omega)
     rw [e0]
     refine Ev.step (f:=fun k=>freshetref02_Compare.j2 k l m (i : Int) false) (fun k=>?_) ?_
     ·simp only [freshetref02_Compare.l0];rw [if_neg (by omega)]
     ·by_cases hc : i < m.length
      ·have e1:=List.drop_eq_getElem_cons hc
       rw [e1]
       refine Ev.step (f:=fun _=>some (-1)) (fun k=>?_) (Ev.now _)
       simp only [freshetref02_Compare.j2]
       rw [if_neg Bool.false_ne_true,if_pos (by omega)]
      ·have e1 : m.drop i = []:=List.drop_of_length_le (by omega)
       rw [e1]
       refine Ev.step (f:=fun _=>some 0) (fun k=>?_) (Ev.now _)
       simp only [freshetref02_Compare.j2]
       rw [if_neg Bool.false_ne_true,if_neg (by omega),if_neg (by omega)]
    | succ d ih =>
     intro i hi h1
     have h2 : i < l.length:=by omega
     have e1:=List.drop_eq_getElem_cons h2
     rw [e1]
     by_cases hc : i < m.length
     ·have e2:=List.drop_eq_getElem_cons hc
      rw [e2]
      have hx : xrCompare.f (l[i]).f0 (l[i]).f1 (l[i]).f2 (l[i]).f3 (m[i]).f0 (m[i]).f1 (m[i]).f2 (m[i]).f3 = some (cV (toV l[i]) (toV m[i])):=by
       unfold xrCompare.f;exact if_pos ⟨rngL_U hl _ (List.getElem_mem h2),rngL_U hm _ (List.getElem_mem hc)⟩
      have hz : cmpL ((l[i] :: l.drop (i + 1)).map toV) ((m[i] :: m.drop (i + 1)).map toV) = if cV (toV l[i]) (toV m[i]) ≠ 0 then cV (toV l[i]) (toV m[i]) else cmpL ((l.drop (i + 1)).map toV) ((m.drop (i + 1)).map toV):=rfl
      rw [hz]
      have H : ∀ k,freshetref02_Compare.j2 (k + 1) l m (i : Int) true = (if cV (toV l[i]) (toV m[i]) = 0 then freshetref02_Compare.l0 k l m ((i + 1 : Nat) : Int) else some (cV (toV l[i]) (toV m[i]))):=by
       intro k
       simp only [freshetref02_Compare.j2,if_true]
       rw [if_pos (by omega),if_pos (by omega),if_pos (by omega),rd_at l i h2,rd_at m i hc,hx,Option.bind_some,w64k (by omega) (by omega)]
       rfl
      refine Ev.step (f:=fun k=>freshetref02_Compare.j2 k l m (i : Int) true) (fun k=>?_) ?_
      ·simp only [freshetref02_Compare.l0];rw [if_pos (by omega),decide_eq_true (by omega)]
      ·by_cases h0 : cV (toV l[i]) (toV m[i]) = 0
       ·rw [if_neg (fun h=>h h0)]
        refine Ev.step (fun k=>?_) (ih (i + 1) (by omega) (by omega))
        rw [H,if_pos h0]
       ·rw [if_pos h0]
        refine Ev.step (f:=fun _=>some _) (fun k=>?_) (Ev.now _)
        rw [H,if_neg h0]
     ·have e2 : m.drop i = []:=List.drop_of_length_le (by omega)
      rw [e2]
      refine Ev.step (f:=fun k=>freshetref02_Compare.j2 k l m (i : Int) false) (fun k=>?_) (Ev.step (f:=fun _=>some 1) (fun k=>?_) (Ev.now _))
      ·simp only [freshetref02_Compare.l0];rw [if_pos (by omega),decide_eq_false (by omega)]
      ·simp only [freshetref02_Compare.j2]
       rw [if_neg Bool.false_ne_true,if_neg (by omega),if_pos (by omega)]
   refine Ev.bind h (Ev.congr (fun k=>?_) (Ev.bind (f:=fun k t=>freshetref02_Compare.j0 k l m (!t)) h' (Ev.step (f:=fun k=>freshetref02_Compare.l0 k l m 0) (fun k=>?_) (main l.length 0 (by omega) (by omega)))))
   ·rw [if_pos rfl]
   ·simp only [freshetref02_Compare.j0];rfl
end Go.Proofs.YthpkjkcfhipjhaaGreatDoor
end
