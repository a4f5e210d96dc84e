/- a part of the claim: what the card leans on, out of the texts ZQ2, ZA8, ZA9, ZL1, XZA, ZL6, ZT7, XZ7 (put together by wip/tools/shake.py). -/
import Derived.Test.YthpkjkcfhipjhaaGreatDoorSS1
import Derived.Test.YthpkjkcfhipjhaaGreatDoorSS2
import Derived.Test.YthpkjkcfhipjhaaGreatDoorSS4
import Derived.Test.YthpkjkcfhipjhaaGreatDoorSS5
import Derived.Test.YthpkjkcfhipjhaaGreatDoorSS6
import Derived.Test.YthpkjkcfhipjhaaGreatDoorSS7
import Derived.Test.YthpkjkcfhipjhaaGreatDoorSS8
import Derived.Test.YthpkjkcfhipjhaaGreatDoorSS12
import Derived.Test.YthpkjkcfhipjhaaGreatDoorSS13
import Derived.BigQuiet
import Derived.Deep.QuietTactic
import Derived.Test.YthpkjkcfhipjhaaGreatDoorProg
import Derived.Below
import Derived.Deep.Draws
import Derived.Deep.AppendLies
import Derived.Maps.AppendAt
import Derived.OwnWalk
import Derived.Laws.BytesArg
import Derived.Laws.MakeOwn
import Derived.Laws.OwnMore
import Derived.Deep.OwnRows
import Derived.Tactics
import Derived.Lib.ConvBytes
import Derived.Laws.Slices
import Derived.WalkKit
import Derived.KernelRfl
import Derived.RowKit3
import Derived.Deep.LoopGhost
import Derived.WideLaws
import Derived.Deep.DeepCutAuto
import Derived.Deep.CutBlock
import Derived.Deep.RegionHeld3
import Derived.Laws.Rows
import Derived.Lib.AppendStr
import Derived.ArgAppend
import Derived.Laws.IdiomCopy
import Derived.OrdersHeld
import Derived.Laws.BitsLemmas
import Derived.RowKit
import Derived.Lib.ItoaLen
section
namespace Go.Proofs.YthpkjkcfhipjhaaGreatDoor
set_option linter.unusedVariables false
set_option linter.unusedSimpArgs false
open Go.RowKit Go.Proofs.YthpkjkcfhipjhaaGreatDoorW.PrintWords Go.Proofs.YthpkjkcfhipjhaaGreatDoorW.PrintLast PRW PZA PZB
theorem soundZ_parts {l : List S48} (hr : rngE l = true) (h : soundZ l = true) : (∀ x ∈ l,x.f1 ≠ 0 ∧ fair x.f1 = true ∧ soundL x.f0 = true ∧ rngL x.f0 = true ∧ x.f0.length ≤ 1024) ∧ Zst cT (l.map prE):=by
 obtain ⟨h1,h2⟩:=(soundZ_iff l (fun x hx=>(rngE_at hr x hx).1)).1 h
 refine ⟨fun x hx=>?_,h2⟩
 obtain ⟨a,b⟩:=h1 x hx
 unfold okE at b
 rw [Bool.and_eq_true] at b
 refine ⟨a,b.1,b.2,(rngE_at hr x hx).1, ?_⟩
 have:=b.2
 unfold soundL at this
 simp at this
 exact this.1
def negE (x : S48) : S48:=⟨x.f0, -x.f1⟩
def negP (l : List S48) : List S48 × Int:=if soundZ l then (l.map negE,0) else ([],1)
def subP (a b : List S48) : List S48 × Int:=if (negP b).2 = 0 then addP a (negP b).1 else ([],(negP b).2)
theorem neg_ev (l : List S48) (hr : rngE l = true) (hl : l.length ≤ 1000000) : Ev (fun k=>zset_Neg.f k l) (negP l):=by
 unfold negP
 cases hs : soundZ l
 ·refine Ev.congr (f:=fun _=>some ([],1)) (fun k=>?_) (Ev.now _)
  unfold zset_Neg.f xZSound.f
  rw [if_pos ⟨hr,hl⟩,hs];rfl
 ·obtain ⟨hp,_⟩:=soundZ_parts hr hs
  have main : ∀ d i : Nat,i + d = l.length → Ev (fun k=>zset_Neg.l0 k ((l.take i).map negE) l (l.length : Int) (i : Int)) (l.map negE,0):=by
   intro d
   induction d with
   | zero =>
    intro i hi
    rw [List.take_of_length_le (by omega)]
    refine Ev.step (f:=fun _=>some (l.map negE,0)) (fun k=>?_) (Ev.now _)
    simp only [zset_Neg.l0]
    rw [if_neg (by omega)]
   | succ d ih =>
    intro i hi
    have h1 : i < l.length:=by omega
    obtain ⟨_,p2,_,_,p5⟩:=hp _ (List.getElem_mem h1)
    obtain ⟨f1,f2⟩:=fair_iff.1 p2
    refine Ev.step (fun k=>?_) (ih (i + 1) (by omega))
    simp only [zset_Neg.l0]
    rw [if_pos (by omega),if_pos (by omega),if_pos (by omega),rd_atE l i h1]
    unfold xCloneRow.f
    rw [if_pos (by omega)]
    simp only [Option.bind_some]
    rw [if_pos (by rw [List.length_map,List.length_take];omega),w64k (n:=-l[i].f1) (by omega) (by omega),w64k (by omega) (by omega),List.take_succ_eq_append_getElem h1,List.map_append]
    rfl
  refine Ev.congr (fun k=>?_) (main l.length 0 (by omega))
  unfold zset_Neg.f xZSound.f
  rw [if_pos ⟨hr,hl⟩,hs]
  simp only [Option.bind_some,if_true]
  rw [if_pos (by omega),if_pos (by omega)]
  rfl
theorem negP_rng {l : List S48} (hr : rngE l = true) : rngE (negP l).1 = true ∧ (negP l).1.length ≤ l.length:=by
 unfold negP
 cases hs : soundZ l
 ·exact ⟨rfl,Nat.zero_le _⟩
 ·obtain ⟨hp,_⟩:=soundZ_parts hr hs
  refine ⟨rngE_of fun x hx=>?_,by simp⟩
  obtain ⟨y,hy,rfl⟩:=List.mem_map.1 (show x ∈ l.map negE from hx)
  obtain ⟨_,p2,_,p4,_⟩:=hp y hy
  obtain ⟨f1,f2⟩:=fair_iff.1 p2
  exact ⟨p4,by show -9223372036854775808 ≤ -y.f1;omega,by show -y.f1 ≤ 9223372036854775807;omega⟩
theorem sub_ev (a b : List S48) (hr : rngE a = true) (hl : a.length ≤ 500000) (hrb : rngE b = true) (hlb : b.length ≤ 500000) : Ev (fun k=>zset_Sub.f k a b) (subP a b):=by
 have hn:=neg_ev b hrb (by omega)
 obtain ⟨n1,n2⟩:=negP_rng hrb
 unfold subP
 generalize negP b = q at *
 obtain ⟨z,e⟩:=q
 refine Ev.congr (f:=fun k=>(zset_Neg.f k b).bind fun bt=>if bt.2 = 0 then (xAdd.f a bt.1).bind fun bt'=>some (bt'.1,bt'.2) else some ([],bt.2)) (fun k=>rfl) (Ev.bind hn ?_)
 by_cases he : e = 0
 ·refine Ev.congr (f:=fun _=>some (addP a z)) (fun k=>?_) (by rw [if_pos he];exact Ev.now _)
  show (if e = 0 then (xAdd.f a z).bind fun bt=>some (bt.1,bt.2) else some ([],e)) = _
  unfold xAdd.f
  rw [if_pos he,if_pos ⟨⟨hr,hl⟩,n1,Nat.le_trans n2 hlb⟩]
  rfl
 ·refine Ev.congr (f:=fun _=>some ([],e)) (fun k=>?_) (by rw [if_neg he];exact Ev.now _)
  show (if e = 0 then (xAdd.f a z).bind fun bt=>some (bt.1,bt.2) else some ([],e)) = _
  rw [if_neg he]
end Go.Proofs.YthpkjkcfhipjhaaGreatDoor
end
section
namespace Go.Proofs.YthpkjkcfhipjhaaGreatDoor
set_option linter.unusedVariables false
set_option linter.unusedSimpArgs false
open Go.RowKit Go.Proofs.YthpkjkcfhipjhaaGreatDoorW.PrintWords Go.Proofs.YthpkjkcfhipjhaaGreatDoorW.PrintLast PRW PZA PZB
/-- groups, counted down -/
def grpF {α : Type} (cf : α → α → Int) : Nat → List (α × Int) → List (α × Int)
 | 0,_=>[]
 | _,[]=>[]
 | k + 1,x :: t=>(x.1,x.2 + ((t.takeWhile fun y=>eqR cf x.1 y.1).map (·.2)).sum) :: grpF cf k (t.dropWhile fun y=>eqR cf x.1 y.1)
theorem grpF_eq {α : Type} (cf : α → α → Int) : ∀ (k : Nat) (l : List (α × Int)),l.length ≤ k → grpF cf k l = grp cf l
 | 0,[],_=>grp_nil.symm
 | k + 1,[],_=>grp_nil.symm
 | 0,x :: t,h=>by simp at h
 | k + 1,x :: t,h=>by
  have hsub:=(List.dropWhile_sublist (l:=t) (fun y=>eqR cf x.1 y.1)).length_le
  rw [grp_cons,grpF,grpF_eq cf k _ (by simp at h;omega)]
theorem makeP_lit {l : List S48} (ys zs : List (List S64 × Int)) (hp : ys.Perm (l.map prE)) (hs : SrtL cT ys) (hok : (l.map prE).all (fun x=>okR x.1) = true) (hg : grpF cT ys.length ys = zs) : sums cT (l.map prE) = zs:=by
 rw [← hg,grpF_eq cT _ _ (Nat.le_refl _)]
 exact (grp_sums cT_ord okR cT_same hp hs (fun x hx=>List.all_eq_true.1 hok x hx)).symm
theorem perm4 {α : Type} (a b c d : α) : [b,d,a,c].Perm [a,b,c,d] :=
 (((List.Perm.swap a b [c,d]).symm.trans (((((List.Perm.swap c d []).symm.cons a).trans (List.Perm.swap a d [c]).symm)).cons b).symm.symm).symm : [b,d,a,c].Perm [a,b,c,d])
abbrev nR (n : Int) : List S64:=[⟨2,n,0,⟨#[]⟩⟩]
abbrev nE (n w : Int) : S48:=⟨nR n,w⟩
theorem aw_make : xMake.f [nE 2 1,nE 1 3,nE 2 (-1),nE 1 2] = some ([nE 1 5],0):=by
 have h:=makeP_lit (l:=[nE 2 1,nE 1 3,nE 2 (-1),nE 1 2]) [(nR 1,3),(nR 1,2),(nR 2,1),(nR 2, -1)] [(nR 1,5),(nR 2,0)] (perm4 _ _ _ _) (by unfold SrtL;decide) (by kernel_rfl) (by kernel_rfl)
 unfold xMake.f makeP
 rw [h]
 show _ = _
 kernel_rfl
theorem aw_sums2 : sums cT (([nE 1 5] ++ [nE 0 1]).map prE) = [(nR 0,1),(nR 1,5)] :=
 makeP_lit (l:=[nE 1 5] ++ [nE 0 1]) [(nR 0,1),(nR 1,5)] _ (List.Perm.swap _ _ _) (by unfold SrtL;decide) (by kernel_rfl) (by kernel_rfl)
theorem aw_add : xAdd.f [nE 1 5] [nE 0 1] = some ([nE 0 1,nE 1 5],0):=by
 have hs : (soundZ [nE 1 5] && soundZ [nE 0 1]) = true:=by kernel_rfl
 unfold xAdd.f addP makeP
 rw [hs,aw_sums2]
 show _ = _
 kernel_rfl
theorem aw_dist : zset_Distinct.f 10 [nE 1 (-2),nE 2 7] = some ([nE 2 1],0):=by kernel_rfl
theorem aw_neg : zset_Neg.f 10 [nE 1 5] = some ([nE 1 (-5)],0):=by kernel_rfl
theorem aw_sums3 : sums cT (([nE 0 1,nE 1 5] ++ [nE 1 (-5)]).map prE) = [(nR 0,1),(nR 1,0)] :=
 makeP_lit (l:=[nE 0 1,nE 1 5] ++ [nE 1 (-5)]) [(nR 0,1),(nR 1,5),(nR 1, -5)] _ (List.Perm.refl _) (by unfold SrtL;decide) (by kernel_rfl) (by kernel_rfl)
theorem aw_sub : zset_Sub.f 10 [nE 0 1,nE 1 5] [nE 1 5] = some ([nE 0 1],0):=by
 have hs : (soundZ [nE 0 1,nE 1 5] && soundZ [nE 1 (-5)]) = true:=by kernel_rfl
 have hx : xAdd.f [nE 0 1,nE 1 5] [nE 1 (-5)] = some ([nE 0 1],0):=by
  unfold xAdd.f addP makeP
  rw [hs,aw_sums3]
  show _ = _
  kernel_rfl
 unfold zset_Sub.f
 rw [aw_neg]
 simp only [Option.bind_some,if_true]
 rw [hx];rfl
theorem aw_show : zset_Show.f 10 [nE 0 1,nE 1 5] = some ⟨#[40,48,41,120,49,32,40,49,41,120,53]⟩:=by kernel_rfl
theorem aw_weight : xWeight.f [nE 0 1,nE 1 5] (nR 1) = some 5:=by kernel_rfl
theorem aw_sound : xZSound.f [nE 0 1,nE 1 5] = some true:=by kernel_rfl
end Go.Proofs.YthpkjkcfhipjhaaGreatDoor
end
section
namespace Go.Proofs.YthpkjkcfhipjhaaGreatDoor
set_option linter.unusedVariables false
set_option linter.unusedSimpArgs false
open Go.RowKit Go.Proofs.YthpkjkcfhipjhaaGreatDoorW.PrintWords Go.Proofs.YthpkjkcfhipjhaaGreatDoorW.PrintLast PRW PZA PZB
/-- a world with rows and multisets that lie in it -/
structure St (w0 W : World) (L : List (Option Addr × Nat × List S64)) (M : List (Option Addr × Nat × List S48)) : Prop where
 bel : Below w0.heap.size w0 W
 tab : RTab W
 rows : ∀ t ∈ L,t.2.2.length ≤ t.2.1 ∧ Kd.C k64 W t.1 t.2.2.length t.2.2
 ents : ∀ t ∈ M,t.2.2.length ≤ t.2.1 ∧ Kd.C k48 W t.1 t.2.2.length t.2.2
section
variable {w0 W W' : World} {L : List (Option Addr × Nat × List S64)} {M : List (Option Addr × Nat × List S48)}
theorem St.below (h : St w0 W L M) (hb : Below W.heap.size W W') : St w0 W' L M :=
 ⟨h.bel.trans (hb.mono h.bel.size),h.tab.below hb,fun t ht=>⟨(h.rows t ht).1,Kd.C_below (h.rows t ht).2 hb⟩,fun t ht=>⟨(h.ents t ht).1,Kd.C_below (h.ents t ht).2 hb⟩⟩
theorem St.row (h : St w0 W L M) {A : Option Addr} {c : Nat} {r : List S64} (hc : r.length ≤ c) (hC : Kd.C k64 W A r.length r) : St w0 W ((A,c,r) :: L) M :=
 ⟨h.bel,h.tab,fun t ht=>by
  rcases List.mem_cons.1 ht with rfl | ht
  ·exact ⟨hc,hC⟩
  ·exact h.rows t ht,h.ents⟩
theorem St.ent (h : St w0 W L M) {A : Option Addr} {c : Nat} {r : List S48} (hc : r.length ≤ c) (hC : Kd.C k48 W A r.length r) : St w0 W L ((A,c,r) :: M) :=
 ⟨h.bel,h.tab,h.rows,fun t ht=>by
  rcases List.mem_cons.1 ht with rfl | ht
  ·exact ⟨hc,hC⟩
  ·exact h.ents t ht⟩
def flatP (ps : List ((Option Addr × Nat × List S64) × Int)) : List Value:=ps.flatMap fun p=>[.slice p.1.1 p.1.2.2.length p.1.2.1,.int .i64 p.2]
theorem flatP_at : ∀ (ps : List ((Option Addr × Nat × List S64) × Int)) (j : Nat) (p : (Option Addr × Nat × List S64) × Int),ps[j]? = some p → (flatP ps)[j * 2]? = some (.slice p.1.1 p.1.2.2.length p.1.2.1) ∧ (flatP ps)[j * 2 + 1]? = some (.int .i64 p.2)
 | [],j,p,h=>by simp at h
 | q :: t,0,p,h=>by simp at h;subst h;exact ⟨rfl,rfl⟩
 | q :: t,j + 1,p,h=>by
  have:=flatP_at t j p (by simpa using h)
  rw [show (j + 1) * 2 = j * 2 + 1 + 1 by omega]
  exact this
/-- a row of entries that is made of rows that lie -/
theorem St.lit (h : St w0 W L M) (ps : List ((Option Addr × Nat × List S64) × Int)) (hp : ∀ p ∈ ps,p.1 ∈ L) (hl : ps.length ≤ 9223372036854775807) :
  St w0 (W.alloc (.cells (flatP ps).toArray 48 (0,0))) L ((some ⟨W.heap.size,0,none⟩,ps.length,ps.map fun p=>(⟨p.1.2.2,p.2⟩ : S48)) :: M):=by
 have hb : Below W.heap.size W (W.alloc (.cells (flatP ps).toArray 48 (0,0))):=(Below.refl _ _).alloc (Nat.le_refl _) _
 refine (h.below hb).ent (by simp) ?_
 refine ⟨rfl,by simpa using hl,fun _=>⟨_,rfl,fun j x hx=>?_⟩⟩
 rw [List.getElem?_map] at hx
 obtain ⟨p,hpj,rfl⟩:=Option.map_eq_some_iff.1 hx
 obtain ⟨q1,q2⟩:=flatP_at ps j p hpj
 obtain ⟨r1,r2⟩:=h.rows _ (hp p (List.mem_of_getElem? hpj))
 refine ⟨[.slice p.1.1 p.1.2.2.length p.1.2.1,.int .i64 p.2],rfl,k48_mk _ ⟨p.1.2.2,p.2⟩ r1 (Kd.C_below r2 hb),fun i u hu=>?_⟩
 have hblk:=heap_alloc_new W (.cells (flatP ps).toArray 48 (0,0))
 match i,hu with
 | 0,hu =>
  cases Option.some.inj hu
  show (W.alloc _).cell? ((⟨W.heap.size,0,none⟩ : Addr).add (j * 2)) = _
  have : ((⟨W.heap.size,0,none⟩ : Addr).add (j * 2)) = ⟨W.heap.size,j * 2,none⟩:=by
   unfold Addr.add;split <;> simp_all
  rw [this,blk_cell hblk,List.getElem?_toArray];exact q1
 | 1,hu =>
  cases Option.some.inj hu
  show (W.alloc _).cell? ((⟨W.heap.size,0,none⟩ : Addr).add (j * 2 + 1)) = _
  have : ((⟨W.heap.size,0,none⟩ : Addr).add (j * 2 + 1)) = ⟨W.heap.size,j * 2 + 1,none⟩:=by
   unfold Addr.add;split <;> simp_all
  rw [this,blk_cell hblk,List.getElem?_toArray];exact q2
theorem num_s (h : St w0 W L M) (a b : Int) : Calls Tryz.prog 36 #[.int .i64 a,.int .i64 b] W fun e w'=>∃ A c,e = .returned (.agg #[.slice A 1 c,.int .i64 b]) ∧ St w0 w' ((A,c,nR a) :: L) M:=by
 refine (freshetlaw03_num.calls a b (nR a) b W rfl).mono ?_
 rintro e w' ⟨v,rfl,hR,hb⟩
 obtain ⟨A,c,rfl,hc,hC⟩:=Kd.R_reads hR
 exact ⟨A,c,rfl,(h.below hb).row hc hC⟩
theorem res_s {r1 : List S48} {r2 : Int} {f : FuncId} {args : Array Value} (h : St w0 W L M) (hc : Calls Tryz.prog f args W fun e w'=>∃ v0_ : Value,e = .returned (.tuple #[v0_,.int .i64 r2]) ∧ Kd.R k48 48 w' W.heap.size (fun _=>True) v0_ r1 ∧ Below W.heap.size W w') (n : Nat) (hn : r1.length = n) :
  Calls Tryz.prog f args W fun e w'=>∃ A c,e = .returned (.tuple #[.slice A n c,.int .i64 r2]) ∧ St w0 w' L ((A,c,r1) :: M):=by
 refine hc.mono ?_
 rintro e w' ⟨v,rfl,hR,hb⟩
 obtain ⟨A,c,rfl,hc,hC⟩:=Kd.R_reads hR
 exact ⟨A,c,by rw [hn],(h.below hb).ent hc hC⟩
theorem make_s (h : St w0 W L M) {A : Option Addr} {c : Nat} {l r1 : List S48} {r2 : Int} (hm : (A,c,l) ∈ M) (hf : xMake.f l = some (r1,r2)) (m n : Nat) (hl : l.length = m) (hn : r1.length = n) :
  Calls Tryz.prog 7 #[.slice A m c] W fun e w'=>∃ A c,e = .returned (.tuple #[.slice A n c,.int .i64 r2]) ∧ St w0 w' L ((A,c,r1) :: M):=by
 subst hl;exact res_s h (xMake.calls A c l r1 r2 W (h.ents _ hm).2 (h.ents _ hm).1 hf) n hn
theorem dist_s (h : St w0 W L M) {A : Option Addr} {c : Nat} {l r1 : List S48} {r2 : Int} (hm : (A,c,l) ∈ M) (hf : zset_Distinct.f 10 l = some (r1,r2)) (m n : Nat) (hl : l.length = m) (hn : r1.length = n) :
  Calls Tryz.prog 9 #[.slice A m c] W fun e w'=>∃ A c,e = .returned (.tuple #[.slice A n c,.int .i64 r2]) ∧ St w0 w' L ((A,c,r1) :: M):=by
 subst hl;exact res_s h (zset_Distinct.calls 10 A c l r1 r2 W (h.ents _ hm).2 (h.ents _ hm).1 hf) n hn
theorem neg_s (h : St w0 W L M) {A : Option Addr} {c : Nat} {l r1 : List S48} {r2 : Int} (hm : (A,c,l) ∈ M) (hf : zset_Neg.f 10 l = some (r1,r2)) (m n : Nat) (hl : l.length = m) (hn : r1.length = n) :
  Calls Tryz.prog 22 #[.slice A m c] W fun e w'=>∃ A c,e = .returned (.tuple #[.slice A n c,.int .i64 r2]) ∧ St w0 w' L ((A,c,r1) :: M):=by
 subst hl;exact res_s h (zset_Neg.calls 10 A c l r1 r2 W (h.ents _ hm).2 (h.ents _ hm).1 hf) n hn
theorem add_s (h : St w0 W L M) {A B : Option Addr} {c d : Nat} {l k r1 : List S48} {r2 : Int} (hm : (A,c,l) ∈ M) (hk : (B,d,k) ∈ M) (hf : xAdd.f l k = some (r1,r2)) (m m' n : Nat) (hl : l.length = m) (hl' : k.length = m') (hn : r1.length = n) :
  Calls Tryz.prog 18 #[.slice A m c,.slice B m' d] W fun e w'=>∃ A c,e = .returned (.tuple #[.slice A n c,.int .i64 r2]) ∧ St w0 w' L ((A,c,r1) :: M):=by
 subst hl;subst hl';exact res_s h (xAdd.calls A c l B d k r1 r2 W (h.ents _ hm).2 (h.ents _ hm).1 (h.ents _ hk).2 (h.ents _ hk).1 hf) n hn
theorem sub_s (h : St w0 W L M) {A B : Option Addr} {c d : Nat} {l k r1 : List S48} {r2 : Int} (hm : (A,c,l) ∈ M) (hk : (B,d,k) ∈ M) (hf : zset_Sub.f 10 l k = some (r1,r2)) (m m' n : Nat) (hl : l.length = m) (hl' : k.length = m') (hn : r1.length = n) :
  Calls Tryz.prog 20 #[.slice A m c,.slice B m' d] W fun e w'=>∃ A c,e = .returned (.tuple #[.slice A n c,.int .i64 r2]) ∧ St w0 w' L ((A,c,r1) :: M):=by
 subst hl;subst hl';exact res_s h (zset_Sub.calls 10 A c l B d k r1 r2 W (h.ents _ hm).2 (h.ents _ hm).1 (h.ents _ hk).2 (h.ents _ hk).1 hf) n hn
theorem same_s (h : St w0 W L M) {A B : Option Addr} {c d : Nat} {l : List S48} (hm : (A,c,l) ∈ M) (hk : (B,d,l) ∈ M) (hl0 : shortE l) (m : Nat) (hl : l.length = m) :
  Calls Tryz.prog 11 #[.slice A m c,.slice B m d] W fun e w'=>e = .returned (.bool true) ∧ St w0 w' L M:=by
 subst hl
 obtain ⟨k,hf⟩:=zsame_ev l l hl0
 have hf:=hf k (Nat.le_refl _)
 rw [decide_eq_true rfl] at hf
 refine (freshetref03_Same.calls k A c l B d l true W (h.ents _ hm).2 (h.ents _ hm).1 (h.ents _ hk).2 (h.ents _ hk).1 hf).mono ?_
 rintro e w' ⟨rfl,hd⟩
 exact ⟨rfl,h.below hd.below⟩
theorem show_s (h : St w0 W L M) {A : Option Addr} {c : Nat} {l : List S48} {r : ByteArray} (hm : (A,c,l) ∈ M) (hf : zset_Show.f 10 l = some r) (m : Nat) (hl : l.length = m) :
  Calls Tryz.prog 14 #[.slice A m c] W fun e w'=>e = .returned (.string r) ∧ St w0 w' L M:=by
 subst hl
 refine (zset_Show.calls 10 A c l r W (h.ents _ hm).2 (h.ents _ hm).1 h.tab hf).mono ?_
 rintro e w' ⟨rfl,hb⟩
 exact ⟨rfl,h.below hb⟩
theorem sound_s (h : St w0 W L M) {A : Option Addr} {c : Nat} {l : List S48} {r : Bool} (hm : (A,c,l) ∈ M) (hf : xZSound.f l = some r) (m : Nat) (hl : l.length = m) :
  Calls Tryz.prog 12 #[.slice A m c] W fun e w'=>e = .returned (.bool r) ∧ St w0 w' L M:=by
 subst hl
 refine (xZSound.calls A c l r W (h.ents _ hm).2 (h.ents _ hm).1 hf).mono ?_
 rintro e w' ⟨rfl,hb⟩
 exact ⟨rfl,h.below hb⟩
theorem weight_s (h : St w0 W L M) {A B : Option Addr} {c d : Nat} {l : List S48} {q : List S64} {r : Int} (hm : (A,c,l) ∈ M) (hq : (B,d,q) ∈ L) (hf : xWeight.f l q = some r) (m m' : Nat) (hl : l.length = m) (hl' : q.length = m') :
  Calls Tryz.prog 16 #[.slice A m c,.slice B m' d] W fun e w'=>e = .returned (.int .i64 r) ∧ St w0 w' L M:=by
 subst hl;subst hl'
 refine (xWeight.calls A c l B d q r W (h.ents _ hm).2 (h.ents _ hm).1 (h.rows _ hq).2 (h.rows _ hq).1 hf).mono ?_
 rintro e w' ⟨rfl,hb⟩
 exact ⟨rfl,h.below hb⟩
end
theorem field_row (W : World) (A : Option Addr) (n c : Nat) (x : Value) : (Instr.field 48 (.agg #[.slice A n c,x]) 0).run Tryz.prog W = .ok (.slice A n c) W:=by
 have hu:=run_underlying Tryz.underlying48
 have h1 : (Go.sizeOf 24).run Tryz.prog W = .ok 1 W:=by kernel_rfl
 have h2 : (isAgg 24).run Tryz.prog W = .ok false W:=by kernel_rfl
 simp [Instr.field,hu,part,asAgg,h1,h2,go_sem]
theorem shortE_n (l : List S48) (h : l.length ≤ 1000000 ∧ (l.all fun x=>decide (x.f0.length ≤ 1024)) = true) : shortE l:=⟨h.1,fun x hx=>by
 have:=of_decide_eq_true (List.all_eq_true.1 h.2 x hx);omega⟩
set_option maxRecDepth 1000000 in
set_option maxHeartbeats 16000000 in
theorem awake3_c (w : World) (hT : RTab w) : Calls Tryz.prog 6 #[] w fun e w'=>e = .returned (.bool true) ∧ Below w.heap.size w w':=by
 have HS0:=hidF (show St w w [] [] from ⟨Below.refl _ _,hT,fun t ht=>absurd ht List.not_mem_nil,fun t ht=>absurd ht List.not_mem_nil⟩)
 clear hT
 have hu:=Tryz.underlying48
 have hfld:=field_row
 go_enter Tryz.func6,Tryz.ntmps6
 go_wp2_with fail
 (with_reducible refine (num_s HS0.out (2) (1)).mono ?_)
 rintro e w1 ⟨A1,c1,rfl,hS⟩
 have HS1:=hidF hS
 clear hS
 go_wp2_with fail
 (with_reducible refine (num_s HS1.out (1) (3)).mono ?_)
 rintro e w2 ⟨A2,c2,rfl,hS⟩
 have HS2:=hidF hS
 clear hS
 go_wp2_with fail
 (with_reducible refine (num_s HS2.out (2) (-1)).mono ?_)
 rintro e w3 ⟨A3,c3,rfl,hS⟩
 have HS3:=hidF hS
 clear hS
 go_wp2_with fail
 (with_reducible refine (num_s HS3.out (1) (2)).mono ?_)
 rintro e w4 ⟨A4,c4,rfl,hS⟩
 have HS4:=hidF hS
 clear hS
 have HSL:=hidF (show St w (w4.alloc (.cells #[.slice A1 1 c1,.int .i64 (1),.slice A2 1 c2,.int .i64 (3),.slice A3 1 c3,.int .i64 (-1),.slice A4 1 c4,.int .i64 (2)] 48 (0,0))) _ _ from HS4.out.lit [((A1,c1,nR (2)),(1)),((A2,c2,nR (1)),(3)),((A3,c3,nR (2)),(-1)),((A4,c4,nR (1)),(2))] (by simp) (by simp))
 clear HS4
 have HS4:=HSL
 clear HSL
 go_wp2_with fail
 (with_reducible refine (make_s HS4.out (l:=[nE 2 1,nE 1 3,nE 2 (-1),nE 1 2]) (by simp) aw_make 4 1 rfl rfl).mono ?_)
 rintro e w5 ⟨A5,c5,rfl,hS⟩
 have HS5:=hidF hS
 clear hS
 go_wp2_with fail
 (with_reducible refine (num_s HS5.out (0) (1)).mono ?_)
 rintro e w6 ⟨A6,c6,rfl,hS⟩
 have HS6:=hidF hS
 clear hS
 have HSL:=hidF (show St w (w6.alloc (.cells #[.slice A6 1 c6,.int .i64 (1)] 48 (0,0))) _ _ from HS6.out.lit [((A6,c6,nR (0)),(1))] (by simp) (by simp))
 clear HS6
 have HS6:=HSL
 clear HSL
 go_wp2_with fail
 (with_reducible refine (add_s HS6.out (l:=[nE 1 5]) (k:=[nE 0 1]) (by simp) (by simp) aw_add 1 1 2 rfl rfl rfl).mono ?_)
 rintro e w7 ⟨A7,c7,rfl,hS⟩
 have HS7:=hidF hS
 clear hS
 go_wp2_with fail
 (with_reducible refine (num_s HS7.out (1) (-2)).mono ?_)
 rintro e w8 ⟨A8,c8,rfl,hS⟩
 have HS8:=hidF hS
 clear hS
 go_wp2_with fail
 (with_reducible refine (num_s HS8.out (2) (7)).mono ?_)
 rintro e w9 ⟨A9,c9,rfl,hS⟩
 have HS9:=hidF hS
 clear hS
 have HSL:=hidF (show St w (w9.alloc (.cells #[.slice A8 1 c8,.int .i64 (-2),.slice A9 1 c9,.int .i64 (7)] 48 (0,0))) _ _ from HS9.out.lit [((A8,c8,nR (1)),(-2)),((A9,c9,nR (2)),(7))] (by simp) (by simp))
 clear HS9
 have HS9:=HSL
 clear HSL
 go_wp2_with fail
 (with_reducible refine (dist_s HS9.out (l:=[nE 1 (-2),nE 2 7]) (by simp) aw_dist 2 1 rfl rfl).mono ?_)
 rintro e w10 ⟨A10,c10,rfl,hS⟩
 have HS10:=hidF hS
 clear hS
 go_wp2_with fail
 (with_reducible refine (neg_s HS10.out (l:=[nE 1 5]) (by simp) aw_neg 1 1 rfl rfl).mono ?_)
 rintro e w11 ⟨A11,c11,rfl,hS⟩
 have HS11:=hidF hS
 clear hS
 go_wp2_with fail
 (with_reducible refine (sub_s HS11.out (l:=[nE 0 1,nE 1 5]) (k:=[nE 1 5]) (by simp) (by simp) aw_sub 2 1 1 rfl rfl rfl).mono ?_)
 rintro e w12 ⟨A12,c12,rfl,hS⟩
 have HS12:=hidF hS
 clear hS
 go_wp2_with fail
 (with_reducible refine (num_s HS12.out (1) (5)).mono ?_)
 rintro e w13 ⟨A13,c13,rfl,hS⟩
 have HS13:=hidF hS
 clear hS
 have HSL:=hidF (show St w (w13.alloc (.cells #[.slice A13 1 c13,.int .i64 (5)] 48 (0,0))) _ _ from HS13.out.lit [((A13,c13,nR (1)),(5))] (by simp) (by simp))
 clear HS13
 have HS13:=HSL
 clear HSL
 go_wp2_with fail
 (with_reducible refine (same_s HS13.out (l:=[nE 1 5]) (by simp) (by simp) (shortE_n _ (by decide)) 1 rfl).mono ?_)
 rintro e w14 ⟨rfl,hS⟩
 have HS14:=hidF hS
 clear hS
 go_wp2_with fail
 (with_reducible refine (show_s HS14.out (l:=[nE 0 1,nE 1 5]) (by simp) aw_show 2 rfl).mono ?_)
 rintro e w15 ⟨rfl,hS⟩
 have HS15:=hidF hS
 clear hS
 go_wp2_with fail
 (with_reducible refine (num_s HS15.out (2) (1)).mono ?_)
 rintro e w16 ⟨A16,c16,rfl,hS⟩
 have HS16:=hidF hS
 clear hS
 have HSL:=hidF (show St w (w16.alloc (.cells #[.slice A16 1 c16,.int .i64 (1)] 48 (0,0))) _ _ from HS16.out.lit [((A16,c16,nR (2)),(1))] (by simp) (by simp))
 clear HS16
 have HS16:=HSL
 clear HSL
 go_wp2_with fail
 (with_reducible refine (same_s HS16.out (l:=[nE 2 1]) (by simp) (by simp) (shortE_n _ (by decide)) 1 rfl).mono ?_)
 rintro e w17 ⟨rfl,hS⟩
 have HS17:=hidF hS
 clear hS
 go_wp2_with fail
 (with_reducible refine (num_s HS17.out (1) (-5)).mono ?_)
 rintro e w18 ⟨A18,c18,rfl,hS⟩
 have HS18:=hidF hS
 clear hS
 have HSL:=hidF (show St w (w18.alloc (.cells #[.slice A18 1 c18,.int .i64 (-5)] 48 (0,0))) _ _ from HS18.out.lit [((A18,c18,nR (1)),(-5))] (by simp) (by simp))
 clear HS18
 have HS18:=HSL
 clear HSL
 go_wp2_with fail
 (with_reducible refine (same_s HS18.out (l:=[nE 1 (-5)]) (by simp) (by simp) (shortE_n _ (by decide)) 1 rfl).mono ?_)
 rintro e w19 ⟨rfl,hS⟩
 have HS19:=hidF hS
 clear hS
 go_wp2_with fail
 (with_reducible refine (num_s HS19.out (0) (1)).mono ?_)
 rintro e w20 ⟨A20,c20,rfl,hS⟩
 have HS20:=hidF hS
 clear hS
 have HSL:=hidF (show St w (w20.alloc (.cells #[.slice A20 1 c20,.int .i64 (1)] 48 (0,0))) _ _ from HS20.out.lit [((A20,c20,nR (0)),(1))] (by simp) (by simp))
 clear HS20
 have HS20:=HSL
 clear HSL
 go_wp2_with fail
 (with_reducible refine (same_s HS20.out (l:=[nE 0 1]) (by simp) (by simp) (shortE_n _ (by decide)) 1 rfl).mono ?_)
 rintro e w21 ⟨rfl,hS⟩
 have HS21:=hidF hS
 clear hS
 go_wp2_with fail
 (with_reducible refine (num_s HS21.out (1) (0)).mono ?_)
 rintro e w22 ⟨A22,c22,rfl,hS⟩
 have HS22:=hidF hS
 clear hS
 go_wp2_with fail
 (with_reducible refine (weight_s HS22.out (l:=[nE 0 1,nE 1 5]) (q:=nR 1) (by simp) (by simp) aw_weight 2 1 rfl rfl).mono ?_)
 rintro e w23 ⟨rfl,hS⟩
 have HS23:=hidF hS
 clear hS
 go_wp2_with fail
 (with_reducible refine (sound_s HS23.out (l:=[nE 0 1,nE 1 5]) (by simp) aw_sound 2 rfl).mono ?_)
 rintro e w24 ⟨rfl,hS⟩
 have HS24:=hidF hS
 clear hS
 go_wp2_with fail
 go_ret
 exact ⟨rfl,HS24.out.bel⟩
end Go.Proofs.YthpkjkcfhipjhaaGreatDoor
end
section
namespace Go.Proofs.YthpkjkcfhipjhaaGreatDoor
set_option linter.unusedVariables false
set_option linter.unusedSimpArgs false
open Go.RowKit Go.Proofs.YthpkjkcfhipjhaaGreatDoorW.PrintWords Go.Proofs.YthpkjkcfhipjhaaGreatDoorW.PrintLast PRW PZA PZB
/-- the weight of a row -/
def Wt (l : List S48) (r : List S64) : Int:=wt cT (l.map prE) r
/-- a multiset whose numbers are in range -/
structure Zs (l : List S48) : Prop where
 rng : rngE l = true
 snd : soundZ l = true
theorem Zs.okR {l : List S48} (h : Zs l) : ∀ x ∈ l,Go.Proofs.YthpkjkcfhipjhaaGreatDoor.okR x.f0 = true:=fun x hx=>by
 obtain ⟨_,_,h3,h4,_⟩:=(soundZ_parts h.rng h.snd).1 x hx
 exact okR_iff.2 ⟨h3,h4⟩
theorem Zs.zst {l : List S48} (h : Zs l) : Zst cT (l.map prE):=(soundZ_parts h.rng h.snd).2
theorem Zs.nz {l : List S48} (h : Zs l) : ∀ x ∈ l,x.f1 ≠ 0:=fun x hx=>((soundZ_parts h.rng h.snd).1 x hx).1
theorem Zs.fairs {l : List S48} (h : Zs l) : ∀ x ∈ l,fair x.f1 = true:=fun x hx=>((soundZ_parts h.rng h.snd).1 x hx).2.1
theorem Zs.okE {l : List S48} (h : Zs l) : l.all okE = true:=List.all_eq_true.2 fun x hx=>by
 obtain ⟨_,h2,h3,_,_⟩:=(soundZ_parts h.rng h.snd).1 x hx
 unfold Go.Proofs.YthpkjkcfhipjhaaGreatDoor.okE;rw [h2,h3];rfl
theorem Zs.ext {a b : List S48} (ha : Zs a) (hb : Zs b) (h : ∀ r,Wt a r = Wt b r) : a = b:=by
 have:=z_ext cT_ord Go.Proofs.YthpkjkcfhipjhaaGreatDoor.okR cT_same (a.map prE) (b.map prE) ha.zst hb.zst (fun x hx=>by obtain ⟨y,hy,rfl⟩:=List.mem_map.1 hx;exact ha.okR y hy) (fun x hx=>by obtain ⟨y,hy,rfl⟩:=List.mem_map.1 hx;exact hb.okR y hy)
  (fun x hx=>by obtain ⟨y,hy,rfl⟩:=List.mem_map.1 hx;exact ha.nz y hy) (fun x hx=>by obtain ⟨y,hy,rfl⟩:=List.mem_map.1 hx;exact hb.nz y hy) h
 have e:=congrArg (fun l=>l.map unE) this
 simp only [List.map_map] at e
 rwa [show (unE ∘ prE) = id from rfl,List.map_id,List.map_id] at e
theorem Zs.nil : Zs []:=⟨rfl,rfl⟩
theorem Zs.mk' {l : List S48} (h1 : ∀ x ∈ l,x.f1 ≠ 0 ∧ fair x.f1 = true ∧ soundL x.f0 = true ∧ rngL x.f0 = true) (h2 : Zst cT (l.map prE)) : Zs l:=by
 have hr : rngE l = true:=rngE_of fun x hx=>by
  obtain ⟨_,f,_,r⟩:=h1 x hx
  obtain ⟨f1,f2⟩:=fair_iff.1 f
  exact ⟨r,by omega,by omega⟩
 refine ⟨hr,(soundZ_iff l (fun x hx=>(rngE_at hr x hx).1)).2 ⟨fun x hx=>?_,h2⟩⟩
 obtain ⟨a,b,c,_⟩:=h1 x hx
 exact ⟨a,by unfold Go.Proofs.YthpkjkcfhipjhaaGreatDoor.okE;rw [b,c];rfl⟩
/-- what Make answers, told by weights -/
theorem make_cases (l : List S48) (hr : rngE l = true) (hok : l.all okE = true) :
  ((∀ r,fair (Wt l r) = true) ∧ ∃ z,makeP l = (z,0) ∧ Zs z ∧ (∀ r,Wt z r = Wt l r) ∧ z.length ≤ l.length) ∨ ((∃ r,fair (Wt l r) = false) ∧ makeP l = ([],11)):=by
 have hval:=sums_val cT_ord (l.map prE)
 have hrows:=sums_rows cT_ord (l.map prE)
 have hlen : (sums cT (l.map prE)).length ≤ l.length:=by
  have hg : ∀ (k : Nat) (q : List (List S64 × Int)),q.length ≤ k → (grp cT q).length ≤ q.length:=by
   intro k
   induction k with
   | zero=>intro q hq;rw [List.eq_nil_of_length_eq_zero (Nat.le_zero.1 hq),grp_nil];exact Nat.le_refl _
   | succ k ih =>
    intro q hq
    cases q with
    | nil=>rw [grp_nil];exact Nat.le_refl _
    | cons x t =>
     have hs:=(List.dropWhile_sublist (l:=t) (fun y=>eqR cT x.1 y.1)).length_le
     rw [grp_cons]
     have:=ih (t.dropWhile fun y=>eqR cT x.1 y.1) (by simp at hq;omega)
     simp;omega
  have:=hg _ ((l.map prE).mergeSort (lePair cT)) (Nat.le_refl _)
  rw [List.length_mergeSort,List.length_map] at this
  exact this
 cases ha : (sums cT (l.map prE)).all (fun p=>fair p.2)
 ·right
  constructor
  ·obtain ⟨p,hp,hf⟩:=List.all_eq_false.1 ha
   refine ⟨p.1, ?_⟩
   rw [hval p hp] at hf
   simpa [Wt] using hf
  ·unfold makeP;rw [hok,ha];rfl
 ·left
  have hall:=List.all_eq_true.1 ha
  refine ⟨fun r=>?_,(nz (sums cT (l.map prE))).map unE,by unfold makeP;rw [hok,ha];rfl, ?_, ?_, ?_⟩
  ·cases hh : has cT (l.map prE) r
   ·unfold Wt;rw [wt_none cT _ _ hh];rfl
   ·rw [← sums_has cT_ord] at hh
    obtain ⟨y,hy,e⟩:=(has_iff cT _ _).1 hh
    have:=hall y hy
    rw [hval y hy] at this
    unfold Wt;rw [wt_cong cT_ord e];exact this
  ·refine Zs.mk' (fun x hx=>?_) ?_
   ·obtain ⟨p,hp,rfl⟩:=List.mem_map.1 hx
    obtain ⟨hp,hnz⟩:=nz_mem hp
    obtain ⟨y,hy,e⟩:=hrows p hp
    obtain ⟨z,hz,rfl⟩:=List.mem_map.1 hy
    have hz1:=List.all_eq_true.1 hok z hz
    unfold okE at hz1
    rw [Bool.and_eq_true] at hz1
    have e' : p.1 = z.f0:=e
    exact ⟨hnz,hall p hp,by show soundL p.1 = true;rw [e'];exact hz1.2,by show rngL p.1 = true;rw [e'];exact (rngE_at hr z hz).1⟩
   ·rw [List.map_map,show (prE ∘ unE) = id from rfl,List.map_id]
    exact nz_zst (sums_zst cT_ord _)
  ·intro r
   unfold Wt
   rw [List.map_map,show (prE ∘ unE) = id from rfl,List.map_id,nz_wt,sums_wt cT_ord]
  ·rw [List.length_map]
   exact Nat.le_trans (List.length_filter_le _ _) hlen
theorem Zs.app {a b : List S48} (ha : Zs a) (hb : Zs b) : rngE (a ++ b) = true ∧ (a ++ b).all Go.Proofs.YthpkjkcfhipjhaaGreatDoor.okE = true:=by
 refine ⟨rngE_of fun x hx=>?_,by rw [List.all_append,ha.okE,hb.okE];rfl⟩
 rcases List.mem_append.1 hx with hx | hx
 ·exact rngE_at ha.rng x hx
 ·exact rngE_at hb.rng x hx
end Go.Proofs.YthpkjkcfhipjhaaGreatDoor
end
section
namespace Go.Proofs.YthpkjkcfhipjhaaGreatDoor
set_option linter.unusedVariables false
set_option linter.unusedSimpArgs false
open Go.RowKit Go.Proofs.YthpkjkcfhipjhaaGreatDoorW.PrintWords Go.Proofs.YthpkjkcfhipjhaaGreatDoorW.PrintLast PRW PZA PZB
def xAwake3.f : Option Bool:=some true
theorem xAwake3.calls (r : Bool) (w : World) (hT : RTab w) (h : xAwake3.f = some r) :
  Calls Tryz.prog 6 #[] w fun e w'=>e = .returned (.bool r) ∧ Below w.heap.size w w':=by
 cases Option.some.inj h
 exact awake3_c w hT
end Go.Proofs.YthpkjkcfhipjhaaGreatDoor
end
section
namespace Go.Proofs.YthpkjkcfhipjhaaGreatDoor
set_option linter.unusedVariables false
set_option linter.unusedSimpArgs false
open Go.RowKit Go.Proofs.YthpkjkcfhipjhaaGreatDoorW.PrintWords Go.Proofs.YthpkjkcfhipjhaaGreatDoorW.PrintLast PRW PZA PZF PZB
theorem sound3_ev (l : List S48) (hr : rngE l = true) (hl : l.length ≤ 1000000) : Ev (fun _=>xSound3.f l) (soundZ l):=by
 unfold xSound3.f
 rw [if_pos ⟨hr,hl⟩]
 exact Ev.now _
theorem neg3_ev (l : List S48) (hr : rngE l = true) (hl : l.length ≤ 1000000) : Ev (fun k=>freshetref03_Neg.f k l) (negP l):=by
 have hS:=sound3_ev l hr hl
 unfold negP
 cases hs : soundZ l
 ·rw [hs] at hS
  exact Ev.bind hS (Ev.congr (f:=fun _=>some ([],1)) (fun k=>if_neg Bool.false_ne_true) (Ev.now _))
 ·rw [hs] at hS
  obtain ⟨hp,_⟩:=soundZ_parts hr hs
  have main : ∀ d i : Nat,i + d = l.length → Ev (fun k=>freshetref03_Neg.l0 k l ((l.take i).map negE) (i : Int)) (l.map negE,0):=by
   intro d
   induction d with
   | zero =>
    intro i hi
    rw [List.take_of_length_le (by omega)]
    refine Ev.step (f:=fun _=>some (l.map negE,0)) (fun k=>?_) (Ev.now _)
    simp only [freshetref03_Neg.l0]
    rw [if_neg (by omega)]
   | succ d ih =>
    intro i hi
    have h1 : i < l.length:=by omega
    obtain ⟨_,p2,_,_,p5⟩:=hp _ (List.getElem_mem h1)
    obtain ⟨f1,f2⟩:=fair_iff.1 p2
    refine Ev.step (fun k=>?_) (ih (i + 1) (by omega))
    simp only [freshetref03_Neg.l0]
    rw [if_pos (by omega),if_pos (by omega),rd_atE l i h1,show freshetref03_copied.f l[i].f0 = some l[i].f0 by unfold freshetref03_copied.f;simp;omega]
    simp only [Option.bind_some]
    rw [if_pos (by rw [List.length_map,List.length_take];omega),w64k (n:=-l[i].f1) (by omega) (by omega),w64k (by omega) (by omega),List.take_succ_eq_append_getElem h1,List.map_append]
    rfl
  exact Ev.bind hS (Ev.congr (fun k=>by rw [if_pos rfl];rfl) (main l.length 0 (by omega)))
end Go.Proofs.YthpkjkcfhipjhaaGreatDoor
end
section
namespace Go.Proofs.YthpkjkcfhipjhaaGreatDoor
set_option linter.unusedVariables false
set_option linter.unusedSimpArgs false
open Go.RowKit Go.Proofs.YthpkjkcfhipjhaaGreatDoorW.PrintWords Go.Proofs.YthpkjkcfhipjhaaGreatDoorW.PrintLast PRW PZA PZF PZB
set_option maxRecDepth 100000 in
set_option maxHeartbeats 8000000 in
theorem add3_c (A0 : Option Addr) (c0 : Nat) (l0 : List S48) (A1 : Option Addr) (c1 : Nat) (l1 : List S48) (w : World) (hr0 : Kd.C k48 w A0 l0.length l0) (hr1 : Kd.C k48 w A1 l1.length l1)
  (h0 : ∀ x ∈ l0,rngL x.f0 = true ∧ I64 x.f1) (h1 : ∀ x ∈ l1,rngL x.f0 = true ∧ I64 x.f1) (hl0 : l0.length ≤ 400) (hl1 : l1.length ≤ 400) :
  Calls Tryz.prog 19 #[.slice A0 l0.length c0,.slice A1 l1.length c1] w (AddOut l0 l1 w):=by
 have S0:=hidF (fun W (hb : Below w.heap.size w W)=>sound3_c A0 c0 l0 W (Kd.C_below hr0 hb) (fun x hx=>(h0 x hx).1) (by omega))
 have S1:=hidF (fun W (hb : Below w.heap.size w W)=>sound3_c A1 c1 l1 W (Kd.C_below hr1 hb) (fun x hx=>(h1 x hx).1) (by omega))
 obtain ⟨Y0,y0,R0,K0⟩:=raws_of hr0
 obtain ⟨Y1,y1,R1,K1⟩:=raws_of hr1
 have hR0:=hidF R0
 have hR1:=hidF R1
 have hY0:=hidF y0
 have hY1:=hidF y1
 have MK : Hid (∀ (W : World) (v : Value),Below w.heap.size w W → Kd.R kRaw2 48 W w.heap.size (fun _=>True) v (Y0 ++ Y1) → ∃ A c,v = .slice A (l0 ++ l1).length c ∧ Calls Tryz.prog 8 #[.slice A (l0 ++ l1).length c] W (MakeOut (l0 ++ l1) W)):=hidF fun W v hb hR=>by
  obtain ⟨A,c,rfl,hle,hC⟩:=Kd.R_reads hR
  have hlen : (Y0 ++ Y1).length = (l0 ++ l1).length:=by rw [List.length_append,List.length_append,y0,y1]
  rw [hlen] at hC ⊢
  refine ⟨A,c,rfl,make3_c A c (l0 ++ l1) W (C_of_raws hC hlen fun i x p hx hp=>?_) (by rw [List.length_append];omega) (fun x hx=>?_)⟩
  ·by_cases hi : i < l0.length
   ·rw [List.getElem?_append_left hi] at hx
    rw [List.getElem?_append_left (by omega)] at hp
    exact k48.K_below hb (K0 i x p hx hp)
   ·rw [List.getElem?_append_right (by omega)] at hx
    rw [List.getElem?_append_right (by omega),y0] at hp
    exact k48.K_below hb (K1 _ x p hx hp)
  ·rcases List.mem_append.1 hx with hx | hx
   ·exact h0 x hx
   ·exact h1 x hx
 have HB:=hidF (Below.refl w.heap.size w)
 obtain ⟨n0,hn0⟩ : ∃ n,l0.length = n:=⟨_,rfl⟩
 obtain ⟨n1,hn1⟩ : ∃ n,l1.length = n:=⟨_,rfl⟩
 rw [hn0] at hR0 S0 hl0 hY0 ⊢
 rw [hn1] at hR1 S1 hl1 hY1 ⊢
 clear hr0 hr1 h0 h1 R0 R1 K0 K1 y0 y1 hn0 hn1
 cases s0 : soundZ l0
 ·have HA : Hid (addP l0 l1 = ([],1)):=hidF (by unfold addP;rw [s0];rfl)
  rw [s0] at S0
  clear s0
  go_enter Tryz.func19,Tryz.ntmps19
  go_wp2_with (go_at_call 13;((with_reducible refine (S0.out _ (Below.refl _ _)).mono ?_);rintro e w1 ⟨rfl,hb⟩))
  go_ret2
  exact AddOut.of HA.out (Kd.R_nil _ _ _ _ _) hb
 ·cases s1 : soundZ l1
  ·have HA : Hid (addP l0 l1 = ([],1)):=hidF (by unfold addP;rw [s0,s1];rfl)
   rw [s0] at S0
   rw [s1] at S1
   clear s0 s1
   go_enter Tryz.func19,Tryz.ntmps19
   go_wp2_with (first
    | (go_at_call 13;(fail_if_success (have:=w1));((with_reducible refine (S0.out _ HB.out).mono ?_);rintro e w1 ⟨rfl,hb⟩;have HB1:=hidF hb;clear hb))
    | (go_at_call 13;((with_reducible refine (S1.out _ HB1.out).mono ?_);rintro e w2 ⟨rfl,hb⟩;have HB2:=hidF (HB1.out.trans (hb.mono HB1.out.size));clear hb)))
   go_ret2
   exact AddOut.of HA.out (Kd.R_nil _ _ _ _ _) HB2.out
  ·have HA : Hid (addP l0 l1 = makeP (l0 ++ l1)):=hidF (by unfold addP;rw [s0,s1];rfl)
   rw [s0] at S0
   rw [s1] at S1
   clear s0 s1
   go_enter Tryz.func19,Tryz.ntmps19
   go_wp2_with (first
    | (go_at_call 13;((with_reducible refine (S0.out _ HB.out).mono ?_);rintro e w1 ⟨rfl,hb⟩;have HB1:=hidF hb;clear hb))
    | (go_at_call 13;((with_reducible refine (S1.out _ HB1.out).mono ?_);rintro e w2 ⟨rfl,hb⟩;have HB2:=hidF (HB1.out.trans (hb.mono HB1.out.size));clear hb))
    | ((with_reducible refine gate_dst (N:=15) rfl ?_);refine Kd.R_lit kRaw2 _ 48 ?hg (N:=15) ?hd (xs:=([] : List (CellV × CellV))) (inner:=[]) (ok:=fun _=>True) (okp:=fun _=>True) ?hr ?hp (fun _ hk=>hk) trivial (Below.refl _ _) (Nat.le_refl _) (by simp) ?_;(case hd=>rfl);(case hg=>rfl);(case hr=>first | (go_simp;done) | (go_simp;rfl));(case hp=>exact Reps.none _ _);intro v6 w6 ho6 hb6 hg6 hn6;clear hg6 hn6;have HO6:=hidF (Kd.R_lower ho6 HB2.out.size);have HB6:=hidF (HB2.out.trans (hb6.mono HB2.out.size));clear ho6 hb6)
    | ((with_reducible refine gate_dst (N:=18) rfl ?_);refine Kd.R_append_rows2 kRaw2 (Rr:=kRaw2.K w6) (w0:=w) w.heap.size rfl (.tmp 16) (.tmp 17) 22 26 48 (.agg #[(.slice none 0 0),(.int .i64 0)]) 32 rfl Tryz.underlying22 Tryz.underlying26 infoE rfl (by decide) (by omega) v6 [] Y0 _ _ _ (fun _=>True) (fun _=>False) rfl rfl ?aO ?aR (fun _ _ h=>kRaw2_KM h) (fun _ h=>h.elim) ?aF ?aB ?aS ?aL ?_;(case aO=>exact HO6.out);(case aR=>exact Kd.C_below hR0.out HB6.out);(case aF=>exact fun _ _=>trivial);(case aB=>exact HB6.out);(case aS=>exact HB6.out.size);(case aL=>simp;omega);intro v7 w7 ho7 hb7 hg7 hn7;clear hg7 hn7;have HO7:=hidF ho7;have HB7:=hidF hb7;clear ho7 hb7)
    | ((with_reducible refine gate_dst (N:=21) rfl ?_);refine Kd.R_append_rows2 kRaw2 (Rr:=kRaw2.K w7) (w0:=w) w.heap.size rfl (.tmp 19) (.tmp 20) 22 26 48 (.agg #[(.slice none 0 0),(.int .i64 0)]) 32 rfl Tryz.underlying22 Tryz.underlying26 infoE rfl (by decide) (by omega) v7 ([] ++ Y0) Y1 _ _ _ (fun _=>True) (fun _=>False) rfl rfl ?aO ?aR (fun _ _ h=>kRaw2_KM h) (fun _ h=>h.elim) ?aF ?aB ?aS ?aL ?_;(case aO=>exact HO7.out);(case aR=>exact Kd.C_below hR1.out HB7.out);(case aF=>exact fun _ _=>trivial);(case aB=>exact HB7.out);(case aS=>exact HB7.out.size);(case aL=>rw [List.nil_append,hY0.out];omega);intro v8 w8 ho8 hb8 hg8 hn8;clear hg8 hn8;rw [List.nil_append] at ho8;obtain ⟨A8,c8,rfl,hM⟩:=MK.out w8 v8 hb8 ho8;rw [List.length_append] at hM;have HM:=hidF hM;have HB8:=hidF hb8;clear ho8 hb8 hM)
    | (go_at_call 8;((with_reducible refine HM.out.mono ?_);rintro e w9 ⟨v9,rfl,ho9,hb9⟩;have HO9:=hidF ho9;have HB9:=hidF hb9;clear ho9 hb9)))
   go_ret2
   exact ⟨v9,by rw [HA.out] <;> rfl,by rw [HA.out];exact Kd.R_lower HO9.out HB8.out.size,HB8.out.trans (HB9.out.mono HB8.out.size)⟩
/-- what Sub answers -/
def SubOut (l0 l1 : List S48) (w : World) (e : Ending) (w' : World) : Prop :=
 ∃ v0,e = .returned (.tuple #[v0,.int .i64 (subP l0 l1).2]) ∧ Kd.R k48 48 w' w.heap.size (fun _=>True) v0 (subP l0 l1).1 ∧ Below w.heap.size w w'
set_option maxRecDepth 100000 in
set_option maxHeartbeats 8000000 in
theorem sub3_c (A0 : Option Addr) (c0 : Nat) (l0 : List S48) (A1 : Option Addr) (c1 : Nat) (l1 : List S48) (w : World) (hr0 : Kd.C k48 w A0 l0.length l0) (hr1 : Kd.C k48 w A1 l1.length l1) (hc1 : l1.length ≤ c1)
  (h0 : ∀ x ∈ l0,rngL x.f0 = true ∧ I64 x.f1) (h1 : rngE l1 = true) (hl0 : l0.length ≤ 400) (hl1 : l1.length ≤ 400) :
  Calls Tryz.prog 21 #[.slice A0 l0.length c0,.slice A1 l1.length c1] w (SubOut l0 l1 w):=by
 obtain ⟨k,hk⟩:=neg3_ev l1 h1 (by omega)
 obtain ⟨hq1,hq2⟩:=negP_rng h1
 obtain ⟨N1,r2,hN⟩ : ∃ N1 r2,negP l1 = (N1,r2):=⟨_,_,rfl⟩
 rw [hN] at hq1 hq2 hk
 simp only at hq1 hq2
 have NEG : Hid (Calls Tryz.prog 23 #[.slice A1 l1.length c1] w fun e w'=>∃ v,e = .returned (.tuple #[v,.int .i64 r2]) ∧ Kd.R k48 48 w' w.heap.size (fun _=>True) v N1 ∧ Below w.heap.size w w') :=
  hidF (freshetref03_Neg.calls k A1 c1 l1 N1 r2 w hr1 hc1 (hk k (Nat.le_refl _)))
 have ADD : Hid (∀ W v,Below w.heap.size w W → Kd.R k48 48 W w.heap.size (fun _=>True) v N1 → ∃ A c,v = .slice A N1.length c ∧ Calls Tryz.prog 19 #[.slice A0 l0.length c0,.slice A N1.length c] W (AddOut l0 N1 W)):=hidF fun W v hb hR=>by
  obtain ⟨A,c,rfl,hle,hC⟩:=Kd.R_reads hR
  exact ⟨A,c,rfl,add3_c A0 c0 l0 A c N1 W (Kd.C_below hr0 hb) hC h0 (rngE_at hq1) hl0 (by omega)⟩
 have hP : subP l0 l1 = if r2 = 0 then addP l0 N1 else ([],r2):=by unfold subP;rw [hN]
 clear hr0 hr1 h0 h1 hk hq1 hN hl0 hl1 hc1 hq2
 by_cases hz : r2 = 0
 ·subst hz
  rw [if_pos rfl] at hP
  have HP:=hidF hP
  clear hP
  go_enter Tryz.func21,Tryz.ntmps21
  go_wp2_with (first
   | (go_at_call 23;((with_reducible refine NEG.out.mono ?_);rintro e w1 ⟨v1,rfl,ho,hb⟩;obtain ⟨A,c,rfl,hA⟩:=ADD.out w1 v1 hb ho;have HA:=hidF hA;have HB:=hidF hb;clear ho hb hA))
   | (go_at_call 19;((with_reducible refine HA.out.mono ?_);rintro e w2 ⟨v2,rfl,ho,hb⟩;have HO2:=hidF ho;have HB2:=hidF hb;clear ho hb)))
  go_ret2
  exact ⟨v2,by rw [HP.out] <;> rfl,by rw [HP.out];exact Kd.R_lower HO2.out HB.out.size,HB.out.trans (HB2.out.mono HB.out.size)⟩
 ·rw [if_neg hz] at hP
  have HP:=hidF hP
  clear hP
  have hz1 : (r2 != 0) = true:=bne_iff_ne.2 hz
  have hz2 : (r2 == 0) = false:=beq_eq_false_iff_ne.2 hz
  have hz3 : decide (r2 = 0) = false:=decide_eq_false hz
  go_enter Tryz.func21,Tryz.ntmps21
  go_wp2_with (first
   | (go_at_call 23;((with_reducible refine NEG.out.mono ?_);rintro e w1 ⟨v1,rfl,ho,hb⟩;have HB:=hidF hb;obtain ⟨A,c,rfl,hA⟩:=ADD.out w1 v1 hb ho;clear ho hb hA)))
  go_ret2
  exact ⟨_,by rw [HP.out] <;> rfl,by rw [HP.out];exact Kd.R_nil _ _ _ _ _,HB.out⟩
end Go.Proofs.YthpkjkcfhipjhaaGreatDoor
end
section
namespace Go.Proofs.YthpkjkcfhipjhaaGreatDoor
set_option linter.unusedVariables false
set_option linter.unusedSimpArgs false
open Go.RowKit Go.Proofs.YthpkjkcfhipjhaaGreatDoorW.PrintWords Go.Proofs.YthpkjkcfhipjhaaGreatDoorW.PrintLast PRW PZA
def xAdd3.f (l m : List S48) : Option (List S48 × Int):=if (rngE l = true ∧ l.length ≤ 400) ∧ rngE m = true ∧ m.length ≤ 400 then some (addP l m) else none
theorem xAdd3.calls (A0 : Option Addr) (c0 : Nat) (l0 : List S48) (A1 : Option Addr) (c1 : Nat) (l1 : List S48) (r1 : List S48) (r2 : Int) (w : World) (hr0 : Kd.C k48 w A0 l0.length l0) (hc0 : l0.length ≤ c0) (hr1 : Kd.C k48 w A1 l1.length l1) (hc1 : l1.length ≤ c1) (h : xAdd3.f l0 l1 = some (r1,r2)) :
  Calls Tryz.prog 19 #[.slice A0 l0.length c0,.slice A1 l1.length c1] w fun e w'=>∃ v0_ : Value,e = .returned (.tuple #[v0_,.int .i64 r2]) ∧ Kd.R k48 48 w' w.heap.size (fun _=>True) v0_ r1 ∧ Below w.heap.size w w':=by
 obtain ⟨⟨⟨g1,g2⟩,g3,g4⟩,he⟩:=ext_of h
 refine (add3_c A0 c0 l0 A1 c1 l1 w hr0 hr1 (rngE_at g1) (rngE_at g3) g2 g4).mono ?_
 rintro e w' ⟨v0,h1,h2,h3⟩
 rw [he] at h1 h2
 exact ⟨v0,h1,h2,h3⟩
def xSub3.f (l m : List S48) : Option (List S48 × Int):=if (rngE l = true ∧ l.length ≤ 400) ∧ rngE m = true ∧ m.length ≤ 400 then some (subP l m) else none
theorem xSub3.calls (A0 : Option Addr) (c0 : Nat) (l0 : List S48) (A1 : Option Addr) (c1 : Nat) (l1 : List S48) (r1 : List S48) (r2 : Int) (w : World) (hr0 : Kd.C k48 w A0 l0.length l0) (hc0 : l0.length ≤ c0) (hr1 : Kd.C k48 w A1 l1.length l1) (hc1 : l1.length ≤ c1) (h : xSub3.f l0 l1 = some (r1,r2)) :
  Calls Tryz.prog 21 #[.slice A0 l0.length c0,.slice A1 l1.length c1] w fun e w'=>∃ v0_ : Value,e = .returned (.tuple #[v0_,.int .i64 r2]) ∧ Kd.R k48 48 w' w.heap.size (fun _=>True) v0_ r1 ∧ Below w.heap.size w w':=by
 obtain ⟨⟨⟨g1,g2⟩,g3,g4⟩,he⟩:=ext_of h
 refine (sub3_c A0 c0 l0 A1 c1 l1 w hr0 hr1 hc1 (rngE_at g1) g3 g2 g4).mono ?_
 rintro e w' ⟨v0,h1,h2,h3⟩
 rw [he] at h1 h2
 exact ⟨v0,h1,h2,h3⟩
end Go.Proofs.YthpkjkcfhipjhaaGreatDoor
end
