/- a part of the claim: what the card leans on, out of the texts ZQ2, ZA8, ZA9, ZL1, ZSH, XZA, ZL6, ZL7 (put together by wip/tools/shake.py). -/
import Derived.Test.YthpkjkcfhipjhaaGreatDoorSK4
import Derived.Test.YthpkjkcfhipjhaaGreatDoorSK9
import Derived.Test.YthpkjkcfhipjhaaGreatDoorSK13
import Derived.Test.YthpkjkcfhipjhaaGreatDoorSK14
import Derived.Test.YthpkjkcfhipjhaaGreatDoorSK15
import Derived.Lib.ItoaLen
section
namespace Go.Proofs.YthpkjkcfhipjhaaGreatDoor
set_option linter.unusedVariables false
set_option linter.unusedSimpArgs false
open Go.RowKit Go.Proofs.YthpkjkcfhipjhaaGreatDoorW.PrintWords Go.Proofs.YthpkjkcfhipjhaaGreatDoorW.PrintLast PRW PZA PZB
theorem soundZ_parts {l : List S48} (hr : rngE l = true) (h : soundZ l = true) : (∀ x ∈ l,x.f1 ≠ 0 ∧ fair x.f1 = true ∧ soundL x.f0 = true ∧ rngL x.f0 = true ∧ x.f0.length ≤ 1024) ∧ Zst cT (l.map prE):=by
 obtain ⟨h1,h2⟩:=(soundZ_iff l (fun x hx=>(rngE_at hr x hx).1)).1 h
 refine ⟨fun x hx=>?_,h2⟩
 obtain ⟨a,b⟩:=h1 x hx
 unfold okE at b
 rw [Bool.and_eq_true] at b
 refine ⟨a,b.1,b.2,(rngE_at hr x hx).1, ?_⟩
 have:=b.2
 unfold soundL at this
 simp at this
 exact this.1
def oneE (x : S48) : S48:=⟨x.f0,1⟩
def distP (l : List S48) : List S48 × Int:=if soundZ l then ((l.filter fun x=>decide (x.f1 > 0)).map oneE,0) else ([],1)
theorem dist_ev (l : List S48) (hr : rngE l = true) (hl : l.length ≤ 1000000) : Ev (fun k=>zset_Distinct.f k l) (distP l):=by
 unfold distP
 cases hs : soundZ l
 ·refine Ev.congr (f:=fun _=>some ([],1)) (fun k=>?_) (Ev.now _)
  unfold zset_Distinct.f xZSound.f
  rw [if_pos ⟨hr,hl⟩,hs];rfl
 ·obtain ⟨hp,_⟩:=soundZ_parts hr hs
  have main : ∀ d i : Nat,i + d = l.length → Ev (fun k=>zset_Distinct.l0 k (((l.take i).filter fun x=>decide (x.f1 > 0)).map oneE) l (l.length : Int) (i : Int)) ((l.filter fun x=>decide (x.f1 > 0)).map oneE,0):=by
   intro d
   induction d with
   | zero =>
    intro i hi
    rw [List.take_of_length_le (by omega)]
    refine Ev.step (f:=fun _=>some ((l.filter fun x=>decide (x.f1 > 0)).map oneE,0)) (fun k=>?_) (Ev.now _)
    simp only [zset_Distinct.l0]
    rw [if_neg (by omega)]
   | succ d ih =>
    intro i hi
    have h1 : i < l.length:=by omega
    obtain ⟨_,p2,_,_,p5⟩:=hp _ (List.getElem_mem h1)
    refine Ev.step (fun k=>?_) (ih (i + 1) (by omega))
    simp only [zset_Distinct.l0]
    rw [if_pos (by omega),if_pos (by omega),if_pos (by omega),rd_atE l i h1,List.take_succ_eq_append_getElem h1,List.filter_append,List.map_append]
    by_cases hw : l[i].f1 > 0
    ·rw [if_pos hw]
     unfold xCloneRow.f
     rw [if_pos (by omega)]
     simp only [Option.bind_some]
     have hlen : (((l.take i).filter fun x=>decide (x.f1 > 0)).map oneE).length ≤ i:=by
      rw [List.length_map]
      exact Nat.le_trans (List.length_filter_le _ _) (by rw [List.length_take];omega)
     rw [if_pos (by omega),w64k (by omega) (by omega),List.filter_cons,if_pos (decide_eq_true hw)]
     rfl
    ·rw [if_neg hw,w64k (by omega) (by omega),List.filter_cons,if_neg (by simpa using hw),List.filter_nil,List.map_nil,List.append_nil]
     rfl
  refine Ev.congr (fun k=>?_) (main l.length 0 (by omega))
  unfold zset_Distinct.f xZSound.f
  rw [if_pos ⟨hr,hl⟩,hs]
  simp only [Option.bind_some,if_true]
  rfl
end Go.Proofs.YthpkjkcfhipjhaaGreatDoor
end
section
namespace Go.Proofs.YthpkjkcfhipjhaaGreatDoor
set_option linter.unusedVariables false
set_option linter.unusedSimpArgs false
open Go.RowKit Go.Proofs.YthpkjkcfhipjhaaGreatDoorW.PrintWords Go.Proofs.YthpkjkcfhipjhaaGreatDoorW.PrintLast PRW PZA PZB
/-- groups, counted down -/
def grpF {α : Type} (cf : α → α → Int) : Nat → List (α × Int) → List (α × Int)
 | 0,_=>[]
 | _,[]=>[]
 | k + 1,x :: t=>(x.1,x.2 + ((t.takeWhile fun y=>eqR cf x.1 y.1).map (·.2)).sum) :: grpF cf k (t.dropWhile fun y=>eqR cf x.1 y.1)
theorem grpF_eq {α : Type} (cf : α → α → Int) : ∀ (k : Nat) (l : List (α × Int)),l.length ≤ k → grpF cf k l = grp cf l
 | 0,[],_=>grp_nil.symm
 | k + 1,[],_=>grp_nil.symm
 | 0,x :: t,h=>by simp at h
 | k + 1,x :: t,h=>by
  have hsub:=(List.dropWhile_sublist (l:=t) (fun y=>eqR cf x.1 y.1)).length_le
  rw [grp_cons,grpF,grpF_eq cf k _ (by simp at h;omega)]
theorem makeP_lit {l : List S48} (ys zs : List (List S64 × Int)) (hp : ys.Perm (l.map prE)) (hs : SrtL cT ys) (hok : (l.map prE).all (fun x=>okR x.1) = true) (hg : grpF cT ys.length ys = zs) : sums cT (l.map prE) = zs:=by
 rw [← hg,grpF_eq cT _ _ (Nat.le_refl _)]
 exact (grp_sums cT_ord okR cT_same hp hs (fun x hx=>List.all_eq_true.1 hok x hx)).symm
theorem perm4 {α : Type} (a b c d : α) : [b,d,a,c].Perm [a,b,c,d] :=
 (((List.Perm.swap a b [c,d]).symm.trans (((((List.Perm.swap c d []).symm.cons a).trans (List.Perm.swap a d [c]).symm)).cons b).symm.symm).symm : [b,d,a,c].Perm [a,b,c,d])
abbrev nR (n : Int) : List S64:=[⟨2,n,0,⟨#[]⟩⟩]
abbrev nE (n w : Int) : S48:=⟨nR n,w⟩
theorem aw_make : xMake.f [nE 2 1,nE 1 3,nE 2 (-1),nE 1 2] = some ([nE 1 5],0):=by
 have h:=makeP_lit (l:=[nE 2 1,nE 1 3,nE 2 (-1),nE 1 2]) [(nR 1,3),(nR 1,2),(nR 2,1),(nR 2, -1)] [(nR 1,5),(nR 2,0)] (perm4 _ _ _ _) (by unfold SrtL;decide) (by kernel_rfl) (by kernel_rfl)
 unfold xMake.f makeP
 rw [h]
 show _ = _
 kernel_rfl
theorem aw_sums2 : sums cT (([nE 1 5] ++ [nE 0 1]).map prE) = [(nR 0,1),(nR 1,5)] :=
 makeP_lit (l:=[nE 1 5] ++ [nE 0 1]) [(nR 0,1),(nR 1,5)] _ (List.Perm.swap _ _ _) (by unfold SrtL;decide) (by kernel_rfl) (by kernel_rfl)
theorem aw_add : xAdd.f [nE 1 5] [nE 0 1] = some ([nE 0 1,nE 1 5],0):=by
 have hs : (soundZ [nE 1 5] && soundZ [nE 0 1]) = true:=by kernel_rfl
 unfold xAdd.f addP makeP
 rw [hs,aw_sums2]
 show _ = _
 kernel_rfl
theorem aw_dist : zset_Distinct.f 10 [nE 1 (-2),nE 2 7] = some ([nE 2 1],0):=by kernel_rfl
theorem aw_neg : zset_Neg.f 10 [nE 1 5] = some ([nE 1 (-5)],0):=by kernel_rfl
theorem aw_sums3 : sums cT (([nE 0 1,nE 1 5] ++ [nE 1 (-5)]).map prE) = [(nR 0,1),(nR 1,0)] :=
 makeP_lit (l:=[nE 0 1,nE 1 5] ++ [nE 1 (-5)]) [(nR 0,1),(nR 1,5),(nR 1, -5)] _ (List.Perm.refl _) (by unfold SrtL;decide) (by kernel_rfl) (by kernel_rfl)
theorem aw_sub : zset_Sub.f 10 [nE 0 1,nE 1 5] [nE 1 5] = some ([nE 0 1],0):=by
 have hs : (soundZ [nE 0 1,nE 1 5] && soundZ [nE 1 (-5)]) = true:=by kernel_rfl
 have hx : xAdd.f [nE 0 1,nE 1 5] [nE 1 (-5)] = some ([nE 0 1],0):=by
  unfold xAdd.f addP makeP
  rw [hs,aw_sums3]
  show _ = _
  kernel_rfl
 unfold zset_Sub.f
 rw [aw_neg]
 simp only [Option.bind_some,if_true]
 rw [hx];rfl
theorem aw_show : zset_Show.f 10 [nE 0 1,nE 1 5] = some ⟨#[40,48,41,120,49,32,40,49,41,120,53]⟩:=by kernel_rfl
theorem aw_weight : xWeight.f [nE 0 1,nE 1 5] (nR 1) = some 5:=by kernel_rfl
theorem aw_sound : xZSound.f [nE 0 1,nE 1 5] = some true:=by kernel_rfl
end Go.Proofs.YthpkjkcfhipjhaaGreatDoor
end
section
namespace Go.Proofs.YthpkjkcfhipjhaaGreatDoor
set_option linter.unusedVariables false
set_option linter.unusedSimpArgs false
open Go.RowKit Go.Proofs.YthpkjkcfhipjhaaGreatDoorW.PrintWords Go.Proofs.YthpkjkcfhipjhaaGreatDoorW.PrintLast PRW PZA PZB
/-- a world with rows and multisets that lie in it -/
structure St (w0 W : World) (L : List (Option Addr × Nat × List S64)) (M : List (Option Addr × Nat × List S48)) : Prop where
 bel : Below w0.heap.size w0 W
 tab : RTab W
 rows : ∀ t ∈ L,t.2.2.length ≤ t.2.1 ∧ Kd.C k64 W t.1 t.2.2.length t.2.2
 ents : ∀ t ∈ M,t.2.2.length ≤ t.2.1 ∧ Kd.C k48 W t.1 t.2.2.length t.2.2
section
variable {w0 W W' : World} {L : List (Option Addr × Nat × List S64)} {M : List (Option Addr × Nat × List S48)}
theorem St.below (h : St w0 W L M) (hb : Below W.heap.size W W') : St w0 W' L M :=
 ⟨h.bel.trans (hb.mono h.bel.size),h.tab.below hb,fun t ht=>⟨(h.rows t ht).1,Kd.C_below (h.rows t ht).2 hb⟩,fun t ht=>⟨(h.ents t ht).1,Kd.C_below (h.ents t ht).2 hb⟩⟩
theorem St.row (h : St w0 W L M) {A : Option Addr} {c : Nat} {r : List S64} (hc : r.length ≤ c) (hC : Kd.C k64 W A r.length r) : St w0 W ((A,c,r) :: L) M :=
 ⟨h.bel,h.tab,fun t ht=>by
  rcases List.mem_cons.1 ht with rfl | ht
  ·exact ⟨hc,hC⟩
  ·exact h.rows t ht,h.ents⟩
theorem St.ent (h : St w0 W L M) {A : Option Addr} {c : Nat} {r : List S48} (hc : r.length ≤ c) (hC : Kd.C k48 W A r.length r) : St w0 W L ((A,c,r) :: M) :=
 ⟨h.bel,h.tab,h.rows,fun t ht=>by
  rcases List.mem_cons.1 ht with rfl | ht
  ·exact ⟨hc,hC⟩
  ·exact h.ents t ht⟩
def flatP (ps : List ((Option Addr × Nat × List S64) × Int)) : List Value:=ps.flatMap fun p=>[.slice p.1.1 p.1.2.2.length p.1.2.1,.int .i64 p.2]
theorem flatP_at : ∀ (ps : List ((Option Addr × Nat × List S64) × Int)) (j : Nat) (p : (Option Addr × Nat × List S64) × Int),ps[j]? = some p → (flatP ps)[j * 2]? = some (.slice p.1.1 p.1.2.2.length p.1.2.1) ∧ (flatP ps)[j * 2 + 1]? = some (.int .i64 p.2)
 | [],j,p,h=>by simp at h
 | q :: t,0,p,h=>by simp at h;subst h;exact ⟨rfl,rfl⟩
 | q :: t,j + 1,p,h=>by
  have:=flatP_at t j p (by simpa using h)
  rw [show (j + 1) * 2 = j * 2 + 1 + 1 by omega]
  exact this
/-- a row of entries that is made of rows that lie -/
theorem St.lit (h : St w0 W L M) (ps : List ((Option Addr × Nat × List S64) × Int)) (hp : ∀ p ∈ ps,p.1 ∈ L) (hl : ps.length ≤ 9223372036854775807) :
  St w0 (W.alloc (.cells (flatP ps).toArray 48 (0,0))) L ((some ⟨W.heap.size,0,none⟩,ps.length,ps.map fun p=>(⟨p.1.2.2,p.2⟩ : S48)) :: M):=by
 have hb : Below W.heap.size W (W.alloc (.cells (flatP ps).toArray 48 (0,0))):=(Below.refl _ _).alloc (Nat.le_refl _) _
 refine (h.below hb).ent (by simp) ?_
 refine ⟨rfl,by simpa using hl,fun _=>⟨_,rfl,fun j x hx=>?_⟩⟩
 rw [List.getElem?_map] at hx
 obtain ⟨p,hpj,rfl⟩:=Option.map_eq_some_iff.1 hx
 obtain ⟨q1,q2⟩:=flatP_at ps j p hpj
 obtain ⟨r1,r2⟩:=h.rows _ (hp p (List.mem_of_getElem? hpj))
 refine ⟨[.slice p.1.1 p.1.2.2.length p.1.2.1,.int .i64 p.2],rfl,k48_mk _ ⟨p.1.2.2,p.2⟩ r1 (Kd.C_below r2 hb),fun i u hu=>?_⟩
 have hblk:=heap_alloc_new W (.cells (flatP ps).toArray 48 (0,0))
 match i,hu with
 | 0,hu =>
  cases Option.some.inj hu
  show (W.alloc _).cell? ((⟨W.heap.size,0,none⟩ : Addr).add (j * 2)) = _
  have : ((⟨W.heap.size,0,none⟩ : Addr).add (j * 2)) = ⟨W.heap.size,j * 2,none⟩:=by
   unfold Addr.add;split <;> simp_all
  rw [this,blk_cell hblk,List.getElem?_toArray];exact q1
 | 1,hu =>
  cases Option.some.inj hu
  show (W.alloc _).cell? ((⟨W.heap.size,0,none⟩ : Addr).add (j * 2 + 1)) = _
  have : ((⟨W.heap.size,0,none⟩ : Addr).add (j * 2 + 1)) = ⟨W.heap.size,j * 2 + 1,none⟩:=by
   unfold Addr.add;split <;> simp_all
  rw [this,blk_cell hblk,List.getElem?_toArray];exact q2
theorem num_s (h : St w0 W L M) (a b : Int) : Calls Tryz.prog 36 #[.int .i64 a,.int .i64 b] W fun e w'=>∃ A c,e = .returned (.agg #[.slice A 1 c,.int .i64 b]) ∧ St w0 w' ((A,c,nR a) :: L) M:=by
 refine (freshetlaw03_num.calls a b (nR a) b W rfl).mono ?_
 rintro e w' ⟨v,rfl,hR,hb⟩
 obtain ⟨A,c,rfl,hc,hC⟩:=Kd.R_reads hR
 exact ⟨A,c,rfl,(h.below hb).row hc hC⟩
theorem res_s {r1 : List S48} {r2 : Int} {f : FuncId} {args : Array Value} (h : St w0 W L M) (hc : Calls Tryz.prog f args W fun e w'=>∃ v0_ : Value,e = .returned (.tuple #[v0_,.int .i64 r2]) ∧ Kd.R k48 48 w' W.heap.size (fun _=>True) v0_ r1 ∧ Below W.heap.size W w') (n : Nat) (hn : r1.length = n) :
  Calls Tryz.prog f args W fun e w'=>∃ A c,e = .returned (.tuple #[.slice A n c,.int .i64 r2]) ∧ St w0 w' L ((A,c,r1) :: M):=by
 refine hc.mono ?_
 rintro e w' ⟨v,rfl,hR,hb⟩
 obtain ⟨A,c,rfl,hc,hC⟩:=Kd.R_reads hR
 exact ⟨A,c,by rw [hn],(h.below hb).ent hc hC⟩
theorem make_s (h : St w0 W L M) {A : Option Addr} {c : Nat} {l r1 : List S48} {r2 : Int} (hm : (A,c,l) ∈ M) (hf : xMake.f l = some (r1,r2)) (m n : Nat) (hl : l.length = m) (hn : r1.length = n) :
  Calls Tryz.prog 7 #[.slice A m c] W fun e w'=>∃ A c,e = .returned (.tuple #[.slice A n c,.int .i64 r2]) ∧ St w0 w' L ((A,c,r1) :: M):=by
 subst hl;exact res_s h (xMake.calls A c l r1 r2 W (h.ents _ hm).2 (h.ents _ hm).1 hf) n hn
theorem dist_s (h : St w0 W L M) {A : Option Addr} {c : Nat} {l r1 : List S48} {r2 : Int} (hm : (A,c,l) ∈ M) (hf : zset_Distinct.f 10 l = some (r1,r2)) (m n : Nat) (hl : l.length = m) (hn : r1.length = n) :
  Calls Tryz.prog 9 #[.slice A m c] W fun e w'=>∃ A c,e = .returned (.tuple #[.slice A n c,.int .i64 r2]) ∧ St w0 w' L ((A,c,r1) :: M):=by
 subst hl;exact res_s h (zset_Distinct.calls 10 A c l r1 r2 W (h.ents _ hm).2 (h.ents _ hm).1 hf) n hn
theorem neg_s (h : St w0 W L M) {A : Option Addr} {c : Nat} {l r1 : List S48} {r2 : Int} (hm : (A,c,l) ∈ M) (hf : zset_Neg.f 10 l = some (r1,r2)) (m n : Nat) (hl : l.length = m) (hn : r1.length = n) :
  Calls Tryz.prog 22 #[.slice A m c] W fun e w'=>∃ A c,e = .returned (.tuple #[.slice A n c,.int .i64 r2]) ∧ St w0 w' L ((A,c,r1) :: M):=by
 subst hl;exact res_s h (zset_Neg.calls 10 A c l r1 r2 W (h.ents _ hm).2 (h.ents _ hm).1 hf) n hn
theorem add_s (h : St w0 W L M) {A B : Option Addr} {c d : Nat} {l k r1 : List S48} {r2 : Int} (hm : (A,c,l) ∈ M) (hk : (B,d,k) ∈ M) (hf : xAdd.f l k = some (r1,r2)) (m m' n : Nat) (hl : l.length = m) (hl' : k.length = m') (hn : r1.length = n) :
  Calls Tryz.prog 18 #[.slice A m c,.slice B m' d] W fun e w'=>∃ A c,e = .returned (.tuple #[.slice A n c,.int .i64 r2]) ∧ St w0 w' L ((A,c,r1) :: M):=by
 subst hl;subst hl';exact res_s h (xAdd.calls A c l B d k r1 r2 W (h.ents _ hm).2 (h.ents _ hm).1 (h.ents _ hk).2 (h.ents _ hk).1 hf) n hn
theorem sub_s (h : St w0 W L M) {A B : Option Addr} {c d : Nat} {l k r1 : List S48} {r2 : Int} (hm : (A,c,l) ∈ M) (hk : (B,d,k) ∈ M) (hf : zset_Sub.f 10 l k = some (r1,r2)) (m m' n : Nat) (hl : l.length = m) (hl' : k.length = m') (hn : r1.length = n) :
  Calls Tryz.prog 20 #[.slice A m c,.slice B m' d] W fun e w'=>∃ A c,e = .returned (.tuple #[.slice A n c,.int .i64 r2]) ∧ St w0 w' L ((A,c,r1) :: M):=by
 subst hl;subst hl';exact res_s h (zset_Sub.calls 10 A c l B d k r1 r2 W (h.ents _ hm).2 (h.ents _ hm).1 (h.ents _ hk).2 (h.ents _ hk).1 hf) n hn
theorem same_s (h : St w0 W L M) {A B : Option Addr} {c d : Nat} {l : List S48} (hm : (A,c,l) ∈ M) (hk : (B,d,l) ∈ M) (hl0 : shortE l) (m : Nat) (hl : l.length = m) :
  Calls Tryz.prog 11 #[.slice A m c,.slice B m d] W fun e w'=>e = .returned (.bool true) ∧ St w0 w' L M:=by
 subst hl
 obtain ⟨k,hf⟩:=zsame_ev l l hl0
 have hf:=hf k (Nat.le_refl _)
 rw [decide_eq_true rfl] at hf
 refine (freshetref03_Same.calls k A c l B d l true W (h.ents _ hm).2 (h.ents _ hm).1 (h.ents _ hk).2 (h.ents _ hk).1 hf).mono ?_
 rintro e w' ⟨rfl,hd⟩
 exact ⟨rfl,h.below hd.below⟩
theorem show_s (h : St w0 W L M) {A : Option Addr} {c : Nat} {l : List S48} {r : ByteArray} (hm : (A,c,l) ∈ M) (hf : zset_Show.f 10 l = some r) (m : Nat) (hl : l.length = m) :
  Calls Tryz.prog 14 #[.slice A m c] W fun e w'=>e = .returned (.string r) ∧ St w0 w' L M:=by
 subst hl
 refine (zset_Show.calls 10 A c l r W (h.ents _ hm).2 (h.ents _ hm).1 h.tab hf).mono ?_
 rintro e w' ⟨rfl,hb⟩
 exact ⟨rfl,h.below hb⟩
theorem sound_s (h : St w0 W L M) {A : Option Addr} {c : Nat} {l : List S48} {r : Bool} (hm : (A,c,l) ∈ M) (hf : xZSound.f l = some r) (m : Nat) (hl : l.length = m) :
  Calls Tryz.prog 12 #[.slice A m c] W fun e w'=>e = .returned (.bool r) ∧ St w0 w' L M:=by
 subst hl
 refine (xZSound.calls A c l r W (h.ents _ hm).2 (h.ents _ hm).1 hf).mono ?_
 rintro e w' ⟨rfl,hb⟩
 exact ⟨rfl,h.below hb⟩
theorem weight_s (h : St w0 W L M) {A B : Option Addr} {c d : Nat} {l : List S48} {q : List S64} {r : Int} (hm : (A,c,l) ∈ M) (hq : (B,d,q) ∈ L) (hf : xWeight.f l q = some r) (m m' : Nat) (hl : l.length = m) (hl' : q.length = m') :
  Calls Tryz.prog 16 #[.slice A m c,.slice B m' d] W fun e w'=>e = .returned (.int .i64 r) ∧ St w0 w' L M:=by
 subst hl;subst hl'
 refine (xWeight.calls A c l B d q r W (h.ents _ hm).2 (h.ents _ hm).1 (h.rows _ hq).2 (h.rows _ hq).1 hf).mono ?_
 rintro e w' ⟨rfl,hb⟩
 exact ⟨rfl,h.below hb⟩
end
theorem field_row (W : World) (A : Option Addr) (n c : Nat) (x : Value) : (Instr.field 48 (.agg #[.slice A n c,x]) 0).run Tryz.prog W = .ok (.slice A n c) W:=by
 have hu:=run_underlying Tryz.underlying48
 have h1 : (Go.sizeOf 24).run Tryz.prog W = .ok 1 W:=by kernel_rfl
 have h2 : (isAgg 24).run Tryz.prog W = .ok false W:=by kernel_rfl
 simp [Instr.field,hu,part,asAgg,h1,h2,go_sem]
theorem shortE_n (l : List S48) (h : l.length ≤ 1000000 ∧ (l.all fun x=>decide (x.f0.length ≤ 1024)) = true) : shortE l:=⟨h.1,fun x hx=>by
 have:=of_decide_eq_true (List.all_eq_true.1 h.2 x hx);omega⟩
set_option maxRecDepth 1000000 in
set_option maxHeartbeats 16000000 in
theorem awake3_c (w : World) (hT : RTab w) : Calls Tryz.prog 6 #[] w fun e w'=>e = .returned (.bool true) ∧ Below w.heap.size w w':=by
 have HS0:=hidF (show St w w [] [] from ⟨Below.refl _ _,hT,fun t ht=>absurd ht List.not_mem_nil,fun t ht=>absurd ht List.not_mem_nil⟩)
 clear hT
 have hu:=Tryz.underlying48
 have hfld:=field_row
 go_enter Tryz.func6,Tryz.ntmps6
 go_wp2_with fail
 (with_reducible refine (num_s HS0.out (2) (1)).mono ?_)
 rintro e w1 ⟨A1,c1,rfl,hS⟩
 have HS1:=hidF hS
 clear hS
 go_wp2_with fail
 (with_reducible refine (num_s HS1.out (1) (3)).mono ?_)
 rintro e w2 ⟨A2,c2,rfl,hS⟩
 have HS2:=hidF hS
 clear hS
 go_wp2_with fail
 (with_reducible refine (num_s HS2.out (2) (-1)).mono ?_)
 rintro e w3 ⟨A3,c3,rfl,hS⟩
 have HS3:=hidF hS
 clear hS
 go_wp2_with fail
 (with_reducible refine (num_s HS3.out (1) (2)).mono ?_)
 rintro e w4 ⟨A4,c4,rfl,hS⟩
 have HS4:=hidF hS
 clear hS
 have HSL:=hidF (show St w (w4.alloc (.cells #[.slice A1 1 c1,.int .i64 (1),.slice A2 1 c2,.int .i64 (3),.slice A3 1 c3,.int .i64 (-1),.slice A4 1 c4,.int .i64 (2)] 48 (0,0))) _ _ from HS4.out.lit [((A1,c1,nR (2)),(1)),((A2,c2,nR (1)),(3)),((A3,c3,nR (2)),(-1)),((A4,c4,nR (1)),(2))] (by simp) (by simp))
 clear HS4
 have HS4:=HSL
 clear HSL
 go_wp2_with fail
 (with_reducible refine (make_s HS4.out (l:=[nE 2 1,nE 1 3,nE 2 (-1),nE 1 2]) (by simp) aw_make 4 1 rfl rfl).mono ?_)
 rintro e w5 ⟨A5,c5,rfl,hS⟩
 have HS5:=hidF hS
 clear hS
 go_wp2_with fail
 (with_reducible refine (num_s HS5.out (0) (1)).mono ?_)
 rintro e w6 ⟨A6,c6,rfl,hS⟩
 have HS6:=hidF hS
 clear hS
 have HSL:=hidF (show St w (w6.alloc (.cells #[.slice A6 1 c6,.int .i64 (1)] 48 (0,0))) _ _ from HS6.out.lit [((A6,c6,nR (0)),(1))] (by simp) (by simp))
 clear HS6
 have HS6:=HSL
 clear HSL
 go_wp2_with fail
 (with_reducible refine (add_s HS6.out (l:=[nE 1 5]) (k:=[nE 0 1]) (by simp) (by simp) aw_add 1 1 2 rfl rfl rfl).mono ?_)
 rintro e w7 ⟨A7,c7,rfl,hS⟩
 have HS7:=hidF hS
 clear hS
 go_wp2_with fail
 (with_reducible refine (num_s HS7.out (1) (-2)).mono ?_)
 rintro e w8 ⟨A8,c8,rfl,hS⟩
 have HS8:=hidF hS
 clear hS
 go_wp2_with fail
 (with_reducible refine (num_s HS8.out (2) (7)).mono ?_)
 rintro e w9 ⟨A9,c9,rfl,hS⟩
 have HS9:=hidF hS
 clear hS
 have HSL:=hidF (show St w (w9.alloc (.cells #[.slice A8 1 c8,.int .i64 (-2),.slice A9 1 c9,.int .i64 (7)] 48 (0,0))) _ _ from HS9.out.lit [((A8,c8,nR (1)),(-2)),((A9,c9,nR (2)),(7))] (by simp) (by simp))
 clear HS9
 have HS9:=HSL
 clear HSL
 go_wp2_with fail
 (with_reducible refine (dist_s HS9.out (l:=[nE 1 (-2),nE 2 7]) (by simp) aw_dist 2 1 rfl rfl).mono ?_)
 rintro e w10 ⟨A10,c10,rfl,hS⟩
 have HS10:=hidF hS
 clear hS
 go_wp2_with fail
 (with_reducible refine (neg_s HS10.out (l:=[nE 1 5]) (by simp) aw_neg 1 1 rfl rfl).mono ?_)
 rintro e w11 ⟨A11,c11,rfl,hS⟩
 have HS11:=hidF hS
 clear hS
 go_wp2_with fail
 (with_reducible refine (sub_s HS11.out (l:=[nE 0 1,nE 1 5]) (k:=[nE 1 5]) (by simp) (by simp) aw_sub 2 1 1 rfl rfl rfl).mono ?_)
 rintro e w12 ⟨A12,c12,rfl,hS⟩
 have HS12:=hidF hS
 clear hS
 go_wp2_with fail
 (with_reducible refine (num_s HS12.out (1) (5)).mono ?_)
 rintro e w13 ⟨A13,c13,rfl,hS⟩
 have HS13:=hidF hS
 clear hS
 have HSL:=hidF (show St w (w13.alloc (.cells #[.slice A13 1 c13,.int .i64 (5)] 48 (0,0))) _ _ from HS13.out.lit [((A13,c13,nR (1)),(5))] (by simp) (by simp))
 clear HS13
 have HS13:=HSL
 clear HSL
 go_wp2_with fail
 (with_reducible refine (same_s HS13.out (l:=[nE 1 5]) (by simp) (by simp) (shortE_n _ (by decide)) 1 rfl).mono ?_)
 rintro e w14 ⟨rfl,hS⟩
 have HS14:=hidF hS
 clear hS
 go_wp2_with fail
 (with_reducible refine (show_s HS14.out (l:=[nE 0 1,nE 1 5]) (by simp) aw_show 2 rfl).mono ?_)
 rintro e w15 ⟨rfl,hS⟩
 have HS15:=hidF hS
 clear hS
 go_wp2_with fail
 (with_reducible refine (num_s HS15.out (2) (1)).mono ?_)
 rintro e w16 ⟨A16,c16,rfl,hS⟩
 have HS16:=hidF hS
 clear hS
 have HSL:=hidF (show St w (w16.alloc (.cells #[.slice A16 1 c16,.int .i64 (1)] 48 (0,0))) _ _ from HS16.out.lit [((A16,c16,nR (2)),(1))] (by simp) (by simp))
 clear HS16
 have HS16:=HSL
 clear HSL
 go_wp2_with fail
 (with_reducible refine (same_s HS16.out (l:=[nE 2 1]) (by simp) (by simp) (shortE_n _ (by decide)) 1 rfl).mono ?_)
 rintro e w17 ⟨rfl,hS⟩
 have HS17:=hidF hS
 clear hS
 go_wp2_with fail
 (with_reducible refine (num_s HS17.out (1) (-5)).mono ?_)
 rintro e w18 ⟨A18,c18,rfl,hS⟩
 have HS18:=hidF hS
 clear hS
 have HSL:=hidF (show St w (w18.alloc (.cells #[.slice A18 1 c18,.int .i64 (-5)] 48 (0,0))) _ _ from HS18.out.lit [((A18,c18,nR (1)),(-5))] (by simp) (by simp))
 clear HS18
 have HS18:=HSL
 clear HSL
 go_wp2_with fail
 (with_reducible refine (same_s HS18.out (l:=[nE 1 (-5)]) (by simp) (by simp) (shortE_n _ (by decide)) 1 rfl).mono ?_)
 rintro e w19 ⟨rfl,hS⟩
 have HS19:=hidF hS
 clear hS
 go_wp2_with fail
 (with_reducible refine (num_s HS19.out (0) (1)).mono ?_)
 rintro e w20 ⟨A20,c20,rfl,hS⟩
 have HS20:=hidF hS
 clear hS
 have HSL:=hidF (show St w (w20.alloc (.cells #[.slice A20 1 c20,.int .i64 (1)] 48 (0,0))) _ _ from HS20.out.lit [((A20,c20,nR (0)),(1))] (by simp) (by simp))
 clear HS20
 have HS20:=HSL
 clear HSL
 go_wp2_with fail
 (with_reducible refine (same_s HS20.out (l:=[nE 0 1]) (by simp) (by simp) (shortE_n _ (by decide)) 1 rfl).mono ?_)
 rintro e w21 ⟨rfl,hS⟩
 have HS21:=hidF hS
 clear hS
 go_wp2_with fail
 (with_reducible refine (num_s HS21.out (1) (0)).mono ?_)
 rintro e w22 ⟨A22,c22,rfl,hS⟩
 have HS22:=hidF hS
 clear hS
 go_wp2_with fail
 (with_reducible refine (weight_s HS22.out (l:=[nE 0 1,nE 1 5]) (q:=nR 1) (by simp) (by simp) aw_weight 2 1 rfl rfl).mono ?_)
 rintro e w23 ⟨rfl,hS⟩
 have HS23:=hidF hS
 clear hS
 go_wp2_with fail
 (with_reducible refine (sound_s HS23.out (l:=[nE 0 1,nE 1 5]) (by simp) aw_sound 2 rfl).mono ?_)
 rintro e w24 ⟨rfl,hS⟩
 have HS24:=hidF hS
 clear hS
 go_wp2_with fail
 go_ret
 exact ⟨rfl,HS24.out.bel⟩
end Go.Proofs.YthpkjkcfhipjhaaGreatDoor
end
section
namespace Go.Proofs.YthpkjkcfhipjhaaGreatDoor
set_option linter.unusedVariables false
set_option linter.unusedSimpArgs false
open Go.RowKit Go.Proofs.YthpkjkcfhipjhaaGreatDoorW.PrintWords Go.Proofs.YthpkjkcfhipjhaaGreatDoorW.PrintLast PRW PZA PZB
/-- the weight of a row -/
def Wt (l : List S48) (r : List S64) : Int:=wt cT (l.map prE) r
/-- a multiset whose numbers are in range -/
structure Zs (l : List S48) : Prop where
 rng : rngE l = true
 snd : soundZ l = true
theorem Zs.okR {l : List S48} (h : Zs l) : ∀ x ∈ l,Go.Proofs.YthpkjkcfhipjhaaGreatDoor.okR x.f0 = true:=fun x hx=>by
 obtain ⟨_,_,h3,h4,_⟩:=(soundZ_parts h.rng h.snd).1 x hx
 exact okR_iff.2 ⟨h3,h4⟩
theorem Zs.zst {l : List S48} (h : Zs l) : Zst cT (l.map prE):=(soundZ_parts h.rng h.snd).2
theorem Zs.nz {l : List S48} (h : Zs l) : ∀ x ∈ l,x.f1 ≠ 0:=fun x hx=>((soundZ_parts h.rng h.snd).1 x hx).1
theorem Zs.fairs {l : List S48} (h : Zs l) : ∀ x ∈ l,fair x.f1 = true:=fun x hx=>((soundZ_parts h.rng h.snd).1 x hx).2.1
theorem Zs.okE {l : List S48} (h : Zs l) : l.all okE = true:=List.all_eq_true.2 fun x hx=>by
 obtain ⟨_,h2,h3,_,_⟩:=(soundZ_parts h.rng h.snd).1 x hx
 unfold Go.Proofs.YthpkjkcfhipjhaaGreatDoor.okE;rw [h2,h3];rfl
theorem Zs.ext {a b : List S48} (ha : Zs a) (hb : Zs b) (h : ∀ r,Wt a r = Wt b r) : a = b:=by
 have:=z_ext cT_ord Go.Proofs.YthpkjkcfhipjhaaGreatDoor.okR cT_same (a.map prE) (b.map prE) ha.zst hb.zst (fun x hx=>by obtain ⟨y,hy,rfl⟩:=List.mem_map.1 hx;exact ha.okR y hy) (fun x hx=>by obtain ⟨y,hy,rfl⟩:=List.mem_map.1 hx;exact hb.okR y hy)
  (fun x hx=>by obtain ⟨y,hy,rfl⟩:=List.mem_map.1 hx;exact ha.nz y hy) (fun x hx=>by obtain ⟨y,hy,rfl⟩:=List.mem_map.1 hx;exact hb.nz y hy) h
 have e:=congrArg (fun l=>l.map unE) this
 simp only [List.map_map] at e
 rwa [show (unE ∘ prE) = id from rfl,List.map_id,List.map_id] at e
theorem Zs.nil : Zs []:=⟨rfl,rfl⟩
theorem Zs.empty {l : List S48} (h : Zs l) (h0 : ∀ r,Wt l r = 0) : l = []:=h.ext Zs.nil (fun r=>by rw [h0];rfl)
theorem Zs.mk' {l : List S48} (h1 : ∀ x ∈ l,x.f1 ≠ 0 ∧ fair x.f1 = true ∧ soundL x.f0 = true ∧ rngL x.f0 = true) (h2 : Zst cT (l.map prE)) : Zs l:=by
 have hr : rngE l = true:=rngE_of fun x hx=>by
  obtain ⟨_,f,_,r⟩:=h1 x hx
  obtain ⟨f1,f2⟩:=fair_iff.1 f
  exact ⟨r,by omega,by omega⟩
 refine ⟨hr,(soundZ_iff l (fun x hx=>(rngE_at hr x hx).1)).2 ⟨fun x hx=>?_,h2⟩⟩
 obtain ⟨a,b,c,_⟩:=h1 x hx
 exact ⟨a,by unfold Go.Proofs.YthpkjkcfhipjhaaGreatDoor.okE;rw [b,c];rfl⟩
/-- what Make answers, told by weights -/
theorem make_cases (l : List S48) (hr : rngE l = true) (hok : l.all okE = true) :
  ((∀ r,fair (Wt l r) = true) ∧ ∃ z,makeP l = (z,0) ∧ Zs z ∧ (∀ r,Wt z r = Wt l r) ∧ z.length ≤ l.length) ∨ ((∃ r,fair (Wt l r) = false) ∧ makeP l = ([],11)):=by
 have hval:=sums_val cT_ord (l.map prE)
 have hrows:=sums_rows cT_ord (l.map prE)
 have hlen : (sums cT (l.map prE)).length ≤ l.length:=by
  have hg : ∀ (k : Nat) (q : List (List S64 × Int)),q.length ≤ k → (grp cT q).length ≤ q.length:=by
   intro k
   induction k with
   | zero=>intro q hq;rw [List.eq_nil_of_length_eq_zero (Nat.le_zero.1 hq),grp_nil];exact Nat.le_refl _
   | succ k ih =>
    intro q hq
    cases q with
    | nil=>rw [grp_nil];exact Nat.le_refl _
    | cons x t =>
     have hs:=(List.dropWhile_sublist (l:=t) (fun y=>eqR cT x.1 y.1)).length_le
     rw [grp_cons]
     have:=ih (t.dropWhile fun y=>eqR cT x.1 y.1) (by simp at hq;omega)
     simp;omega
  have:=hg _ ((l.map prE).mergeSort (lePair cT)) (Nat.le_refl _)
  rw [List.length_mergeSort,List.length_map] at this
  exact this
 cases ha : (sums cT (l.map prE)).all (fun p=>fair p.2)
 ·right
  constructor
  ·obtain ⟨p,hp,hf⟩:=List.all_eq_false.1 ha
   refine ⟨p.1, ?_⟩
   rw [hval p hp] at hf
   simpa [Wt] using hf
  ·unfold makeP;rw [hok,ha];rfl
 ·left
  have hall:=List.all_eq_true.1 ha
  refine ⟨fun r=>?_,(nz (sums cT (l.map prE))).map unE,by unfold makeP;rw [hok,ha];rfl, ?_, ?_, ?_⟩
  ·cases hh : has cT (l.map prE) r
   ·unfold Wt;rw [wt_none cT _ _ hh];rfl
   ·rw [← sums_has cT_ord] at hh
    obtain ⟨y,hy,e⟩:=(has_iff cT _ _).1 hh
    have:=hall y hy
    rw [hval y hy] at this
    unfold Wt;rw [wt_cong cT_ord e];exact this
  ·refine Zs.mk' (fun x hx=>?_) ?_
   ·obtain ⟨p,hp,rfl⟩:=List.mem_map.1 hx
    obtain ⟨hp,hnz⟩:=nz_mem hp
    obtain ⟨y,hy,e⟩:=hrows p hp
    obtain ⟨z,hz,rfl⟩:=List.mem_map.1 hy
    have hz1:=List.all_eq_true.1 hok z hz
    unfold okE at hz1
    rw [Bool.and_eq_true] at hz1
    have e' : p.1 = z.f0:=e
    exact ⟨hnz,hall p hp,by show soundL p.1 = true;rw [e'];exact hz1.2,by show rngL p.1 = true;rw [e'];exact (rngE_at hr z hz).1⟩
   ·rw [List.map_map,show (prE ∘ unE) = id from rfl,List.map_id]
    exact nz_zst (sums_zst cT_ord _)
  ·intro r
   unfold Wt
   rw [List.map_map,show (prE ∘ unE) = id from rfl,List.map_id,nz_wt,sums_wt cT_ord]
  ·rw [List.length_map]
   exact Nat.le_trans (List.length_filter_le _ _) hlen
theorem Zs.app {a b : List S48} (ha : Zs a) (hb : Zs b) : rngE (a ++ b) = true ∧ (a ++ b).all Go.Proofs.YthpkjkcfhipjhaaGreatDoor.okE = true:=by
 refine ⟨rngE_of fun x hx=>?_,by rw [List.all_append,ha.okE,hb.okE];rfl⟩
 rcases List.mem_append.1 hx with hx | hx
 ·exact rngE_at ha.rng x hx
 ·exact rngE_at hb.rng x hx
end Go.Proofs.YthpkjkcfhipjhaaGreatDoor
end
section
namespace Go.Proofs.YthpkjkcfhipjhaaGreatDoor
set_option linter.unusedVariables false
set_option linter.unusedSimpArgs false
open Go.RowKit Go.Proofs.YthpkjkcfhipjhaaGreatDoorW.PrintWords Go.Proofs.YthpkjkcfhipjhaaGreatDoorW.PrintLast PRW PZA PZB
def shV (x : S64) : List UInt8:=showL x.f0 x.f1 x.f2 x.f3
def showR (l : List S64) : List UInt8:=if soundL l then 40 :: (Lib.join (l.map shV) [44,32] ++ [41]) else []
theorem hexP_length : ∀ n u,(hexP n u).length = n
 | 0,_=>rfl
 | n + 1,u=>by simp [hexP,hexP_length n]
theorem shV_len (x : S64) (hn : I64 x.f1) : (shV x).length ≤ 16386:=by
 unfold shV showL
 cases hs : soundV x.f0 x.f1 x.f2 x.f3
 ·simp
 ·simp only [Bool.not_true,Bool.false_eq_true,if_false]
  by_cases h0 : x.f0 = 0
  ·rw [if_pos h0];decide
  ·rw [if_neg h0]
   by_cases h1 : x.f0 = 1
   ·rw [if_pos h1];cases (x.f1 == 1) <;> decide
   ·rw [if_neg h1]
    by_cases h2 : x.f0 = 2
    ·rw [if_pos h2]
     have:=Lib.itoa_length_le x.f1 hn.1 hn.2
     omega
    ·rw [if_neg h2]
     by_cases h4 : x.f0 = 4
     ·rw [if_pos h4]
      have e:=hs
      rw [h4] at e
      simp [soundV,eqV] at e
      have h5:=escs_len x.f3.data.toList
      have h6:=Lib.size_eq x.f3
      unfold quotedL
      rw [List.length_cons,List.length_append]
      have e4:=e.2
      simp only [List.length_cons,List.length_nil]
      omega
     ·rw [if_neg h4,List.length_append,hexP_length];decide
theorem join_snoc (xs : List (List UInt8)) (x sep : List UInt8) (h : xs ≠ []) : Lib.join (xs ++ [x]) sep = Lib.join xs sep ++ sep ++ x:=by
 cases xs with
 | nil=>exact absurd rfl h
 | cons y r=>rw [List.cons_append,Lib.join_cons,Lib.join_cons];simp [Lib.joinTail]
theorem jt_len1 (B : Nat) : ∀ r : List (List UInt8),(∀ x ∈ r,x.length ≤ B) → (Lib.joinTail [32] r).length ≤ (B + 2) * r.length
 | [],_=>by simp [Lib.joinTail]
 | y :: r,h=>by
  have ih:=jt_len1 B r (fun x hx=>h x (List.mem_cons_of_mem _ hx))
  have hy:=h y List.mem_cons_self
  have e : Lib.joinTail [32] (y :: r) = [32] ++ y ++ Lib.joinTail [32] r:=by simp [Lib.joinTail]
  rw [e,List.length_append,List.length_append,show (y :: r).length = r.length + 1 from rfl,Nat.mul_succ]
  simp only [List.length_cons,List.length_nil]
  omega
theorem join_le1 (B : Nat) (xs : List (List UInt8)) (h : ∀ x ∈ xs,x.length ≤ B) : (Lib.join xs [32]).length ≤ (B + 2) * xs.length:=by
 cases xs with
 | nil=>simp [Lib.join_nil]
 | cons y r =>
  have h1:=jt_len1 B r (fun x hx=>h x (List.mem_cons_of_mem _ hx))
  have hy:=h y List.mem_cons_self
  rw [Lib.join_cons,List.length_append,List.length_cons,Nat.mul_succ]
  omega
theorem jt_len (B : Nat) : ∀ r : List (List UInt8),(∀ x ∈ r,x.length ≤ B) → (Lib.joinTail [44,32] r).length ≤ (B + 2) * r.length
 | [],_=>by simp [Lib.joinTail]
 | y :: r,h=>by
  have ih:=jt_len B r (fun x hx=>h x (List.mem_cons_of_mem _ hx))
  have hy:=h y List.mem_cons_self
  have e : Lib.joinTail [44,32] (y :: r) = [44,32] ++ y ++ Lib.joinTail [44,32] r:=by simp [Lib.joinTail]
  rw [e,List.length_append,List.length_append,show (y :: r).length = r.length + 1 from rfl,Nat.mul_succ]
  simp only [List.length_cons,List.length_nil]
  omega
theorem join_le (B : Nat) (xs : List (List UInt8)) (h : ∀ x ∈ xs,x.length ≤ B) : (Lib.join xs [44,32]).length ≤ (B + 2) * xs.length:=by
 cases xs with
 | nil=>simp [Lib.join_nil]
 | cons y r =>
  have h1:=jt_len B r (fun x hx=>h x (List.mem_cons_of_mem _ hx))
  have hy:=h y List.mem_cons_self
  rw [Lib.join_cons,List.length_append,List.length_cons,Nat.mul_succ]
  omega
theorem shows_le (l : List S64) (hr : rngL l = true) (n : Nat) : (Lib.join ((l.take n).map shV) [44,32]).length ≤ 16388 * l.length:=by
 have h:=join_le 16386 ((l.take n).map shV) (fun x hx=>by
  obtain ⟨y,hy,rfl⟩:=List.mem_map.1 hx
  exact shV_len y (rngL_I hr y (List.mem_of_mem_take hy)))
 rw [List.length_map,List.length_take] at h
 refine Nat.le_trans h (Nat.mul_le_mul_left _ (Nat.min_le_right _ _))
theorem show_ev (l : List S64) (hr : rngL l = true) : Ev (fun k=>row_Show.f k l) (bs (showR l)):=by
 have hS : xRowSound.f l = some (soundL l):=by unfold xRowSound.f;rw [if_pos hr]
 cases hs : soundL l
 ·have e : showR l = []:=by unfold showR;rw [hs];rfl
  rw [e]
  refine Ev.congr (f:=fun _=>some _) (fun k=>?_) (Ev.now _)
  simp only [row_Show.f]
  rw [hS,hs,Option.bind_some,if_neg Bool.false_ne_true];rfl
 ·have e : showR l = 40 :: (Lib.join (l.map shV) [44,32] ++ [41]):=by unfold showR;rw [hs];rfl
  rw [e]
  have nl:=(sound_all hs hr).2
  have main : ∀ d i : Nat,i + d = l.length → Ev (fun k=>row_Show.l0 k ((l.take i).map fun x=>bs (shV x)) l (l.length : Int) (i : Int)) (bs (40 :: (Lib.join (l.map shV) [44,32] ++ [41]))):=by
   intro d
   induction d with
   | zero =>
    intro i hi
    rw [List.take_of_length_le (by omega)]
    have hj:=shows_le l hr l.length
    rw [List.take_of_length_le (by omega)] at hj
    have em : (l.map fun x=>bs (shV x)).map (·.data.toList) = l.map shV:=by rw [List.map_map];rfl
    have hx : xJoin.f (l.map fun x=>bs (shV x)) ⟨#[44,32]⟩ = some (bs (Lib.join (l.map shV) [44,32])):=by
     unfold xJoin.f
     rw [em,if_pos ⟨by rw [List.length_map];omega,by show (Lib.join (l.map shV) [44,32]).length ≤ _;omega⟩];rfl
    refine Ev.step (f:=fun _=>some _) (fun k=>?_) (Ev.now _)
    simp only [row_Show.l0]
    rw [if_neg (by omega),hx,Option.bind_some,if_pos (by rw [bs_size];omega),if_pos (by rw [ByteArray.size_append,bs_size];show 1 + _ + 1 ≤ _;omega)]
    congr 1
   | succ d ih =>
    intro i hi
    have h1 : i < l.length:=by omega
    have hm:=List.getElem_mem h1
    have hx : xShow.f (l[i]).f0 (l[i]).f1 (l[i]).f2 (l[i]).f3 = some (bs (shV l[i])):=by unfold xShow.f;exact if_pos ⟨rngL_I hr _ hm,rngL_U hr _ hm⟩
    have ih2:=ih (i + 1) (by omega)
    rw [List.take_succ_eq_append_getElem h1,List.map_append] at ih2
    refine Ev.step (fun k=>?_) ih2
    simp only [row_Show.l0]
    rw [if_pos (by omega),if_pos (by omega),if_pos (by omega),rd_at l i h1,hx,Option.bind_some,if_pos (by rw [List.length_map,List.length_take];omega),w64k (by omega) (by omega)]
    rfl
  refine Ev.congr (fun k=>?_) (main l.length 0 (by omega))
  simp only [row_Show.f]
  rw [hS,hs,Option.bind_some,if_pos rfl,if_pos (by omega),if_pos (by omega)];rfl
theorem bs_app2 (a b : List UInt8) : bs a ++ bs b = bs (a ++ b):=by apply ByteArray.ext;simp [bs]
theorem showR_len (l : List S64) (hr : rngL l = true) (hl : l.length ≤ 1024) : (showR l).length ≤ 16781314:=by
 unfold showR
 split
 ·have h:=shows_le l hr l.length
  rw [List.take_of_length_le (Nat.le_refl _)] at h
  simp only [List.length_cons,List.length_append,List.length_nil]
  omega
 ·simp
def partZ (x : S48) : List UInt8:=showR x.f0 ++ [120] ++ Lib.itoa x.f1
def showZ (l : List S48) : List UInt8:=if soundZ l then Lib.join (l.map partZ) [32] else []
theorem zshow_ev (l : List S48) (hr : rngE l = true) (hl : l.length ≤ 1000) : Ev (fun k=>zset_Show.f k l) (bs (showZ l)):=by
 have hS : xZSound.f l = some (soundZ l):=by unfold xZSound.f;rw [if_pos ⟨hr,by omega⟩]
 cases hs : soundZ l
 ·have e : showZ l = []:=by unfold showZ;rw [hs];rfl
  rw [e]
  refine Ev.congr (f:=fun _=>some _) (fun k=>?_) (Ev.now _)
  unfold zset_Show.f
  rw [hS,hs,Option.bind_some,if_neg Bool.false_ne_true];rfl
 ·have e : showZ l = Lib.join (l.map partZ) [32]:=by unfold showZ;rw [hs];rfl
  rw [e]
  obtain ⟨hp,_⟩:=soundZ_parts hr hs
  have plen : ∀ x ∈ l,(partZ x).length ≤ 16781400:=fun x hx=>by
   obtain ⟨_,_,_,h4,h5⟩:=hp x hx
   have h1:=showR_len x.f0 h4 h5
   have h2:=Lib.itoa_length_le x.f1 (rngE_at hr x hx).2.1 (rngE_at hr x hx).2.2
   unfold partZ
   rw [List.length_append,List.length_append]
   simp only [List.length_cons,List.length_nil]
   omega
  have main : ∀ d i : Nat,i + d = l.length → Ev (fun k=>zset_Show.l0 k ((l.take i).map fun x=>bs (partZ x)) l (l.length : Int) (i : Int)) (bs (Lib.join (l.map partZ) [32])):=by
   intro d
   induction d with
   | zero =>
    intro i hi
    rw [List.take_of_length_le (by omega)]
    have hj:=join_le1 16781400 (l.map partZ) (fun x hx=>by obtain ⟨y,hy,rfl⟩:=List.mem_map.1 hx;exact plen y hy)
    rw [List.length_map] at hj
    have em : (l.map fun x=>bs (partZ x)).map (·.data.toList) = l.map partZ:=by rw [List.map_map];rfl
    have hx : xJoin.f (l.map fun x=>bs (partZ x)) ⟨#[32]⟩ = some (bs (Lib.join (l.map partZ) [32])):=by
     unfold xJoin.f
     rw [em,if_pos ⟨by rw [List.length_map];omega,by show (Lib.join (l.map partZ) [32]).length ≤ _;omega⟩];rfl
    refine Ev.step (f:=fun _=>some _) (fun k=>?_) (Ev.now _)
    simp only [zset_Show.l0]
    rw [if_neg (by omega),hx,Option.bind_some]
   | succ d ih =>
    intro i hi
    have h1 : i < l.length:=by omega
    have hm:=List.getElem_mem h1
    have ih2:=ih (i + 1) (by omega)
    rw [List.take_succ_eq_append_getElem h1,List.map_append] at ih2
    obtain ⟨_,_,_,h4,h5⟩:=hp _ hm
    have hrow:=show_ev l[i].f0 h4
    have hrl:=showR_len l[i].f0 h4 h5
    have hit:=Lib.itoa_length_le l[i].f1 (rngE_at hr _ hm).2.1 (rngE_at hr _ hm).2.2
    have hI : xItoa.f l[i].f1 = some (bs (Lib.itoa l[i].f1)):=by unfold xItoa.f;exact if_pos (rngE_at hr _ hm).2
    have eb : bs (showR l[i].f0) ++ (⟨#[120]⟩ : ByteArray) = bs (showR l[i].f0 ++ [120]):=bs_app2 _ [120]
    refine Ev.step (f:=fun k=>(row_Show.f k l[i].f0).bind fun t136=>(if t136.size + 1 ≤ 9223372036854775807 then ((xItoa.f (l[i].f1)).bind fun t137=>(if (t136 ++ (⟨#[120]⟩ : ByteArray)).size + t137.size ≤ 9223372036854775807 then (zset_Show.l0 k (((l.take i).map fun x=>bs (partZ x)) ++ [(t136 ++ (⟨#[120]⟩ : ByteArray)) ++ t137]) l (l.length : Int) ((i + 1 : Nat) : Int)) else none)) else none)) (fun k=>?_) (Ev.bind hrow ?_)
    ·simp only [zset_Show.l0]
     rw [if_pos (by omega),if_pos (by omega),if_pos (by omega),rd_atE l i h1,w64k (by omega) (by omega)]
     have hz : (((l.take i).map fun x=>bs (partZ x))).length < 8796093022208:=by rw [List.length_map,List.length_take];omega
     simp only [if_pos hz]
     rfl
    ·refine Ev.congr (fun k=>?_) ih2
     rw [if_pos (by rw [bs_size];omega),hI,Option.bind_some,if_pos (by rw [eb,bs_size,bs_size,List.length_append];simp only [List.length_cons,List.length_nil];omega),eb,bs_app2]
     rfl
  refine Ev.congr (fun k=>?_) (main l.length 0 (by omega))
  unfold zset_Show.f
  rw [hS,hs,Option.bind_some,if_pos rfl,if_pos (by omega),if_pos (by omega)];rfl
end Go.Proofs.YthpkjkcfhipjhaaGreatDoor
end
section
namespace Go.Proofs.YthpkjkcfhipjhaaGreatDoor
set_option linter.unusedVariables false
set_option linter.unusedSimpArgs false
open Go.RowKit Go.Proofs.YthpkjkcfhipjhaaGreatDoorW.PrintWords Go.Proofs.YthpkjkcfhipjhaaGreatDoorW.PrintLast PRW PZA PZB
def xAwake3.f : Option Bool:=some true
theorem xAwake3.calls (r : Bool) (w : World) (hT : RTab w) (h : xAwake3.f = some r) :
  Calls Tryz.prog 6 #[] w fun e w'=>e = .returned (.bool r) ∧ Below w.heap.size w w':=by
 cases Option.some.inj h
 exact awake3_c w hT
end Go.Proofs.YthpkjkcfhipjhaaGreatDoor
end
section
namespace Go.Proofs.YthpkjkcfhipjhaaGreatDoor
set_option linter.unusedVariables false
set_option linter.unusedSimpArgs false
open Go.RowKit Go.Proofs.YthpkjkcfhipjhaaGreatDoorW.PrintWords Go.Proofs.YthpkjkcfhipjhaaGreatDoorW.PrintLast PRW PZA PZF PZB
theorem sound3_ev (l : List S48) (hr : rngE l = true) (hl : l.length ≤ 1000000) : Ev (fun _=>xSound3.f l) (soundZ l):=by
 unfold xSound3.f
 rw [if_pos ⟨hr,hl⟩]
 exact Ev.now _
theorem dist3_ev (l : List S48) (hr : rngE l = true) (hl : l.length ≤ 1000000) : Ev (fun k=>freshetref03_Distinct.f k l) (distP l):=by
 have hS:=sound3_ev l hr hl
 unfold distP
 cases hs : soundZ l
 ·rw [hs] at hS
  exact Ev.bind hS (Ev.congr (f:=fun _=>some ([],1)) (fun k=>if_neg Bool.false_ne_true) (Ev.now _))
 ·rw [hs] at hS
  obtain ⟨hp,_⟩:=soundZ_parts hr hs
  have main : ∀ d i : Nat,i + d = l.length → Ev (fun k=>freshetref03_Distinct.l0 k l (((l.take i).filter fun x=>decide (x.f1 > 0)).map oneE) (i : Int)) ((l.filter fun x=>decide (x.f1 > 0)).map oneE,0):=by
   intro d
   induction d with
   | zero =>
    intro i hi
    rw [List.take_of_length_le (by omega)]
    refine Ev.step (f:=fun _=>some ((l.filter fun x=>decide (x.f1 > 0)).map oneE,0)) (fun k=>?_) (Ev.now _)
    simp only [freshetref03_Distinct.l0]
    rw [if_neg (by omega)]
   | succ d ih =>
    intro i hi
    have h1 : i < l.length:=by omega
    obtain ⟨_,p2,_,_,p5⟩:=hp _ (List.getElem_mem h1)
    refine Ev.step (fun k=>?_) (ih (i + 1) (by omega))
    simp only [freshetref03_Distinct.l0]
    rw [if_pos (by omega),if_pos (by omega),rd_atE l i h1,List.take_succ_eq_append_getElem h1,List.filter_append,List.map_append]
    by_cases hw : l[i].f1 > 0
    ·rw [if_pos hw,show freshetref03_copied.f l[i].f0 = some l[i].f0 by unfold freshetref03_copied.f;simp;omega]
     simp only [Option.bind_some]
     have hlen : (((l.take i).filter fun x=>decide (x.f1 > 0)).map oneE).length ≤ i:=by
      rw [List.length_map]
      exact Nat.le_trans (List.length_filter_le _ _) (by rw [List.length_take];omega)
     rw [if_pos (by omega),w64k (by omega) (by omega),List.filter_cons,if_pos (decide_eq_true hw)]
     rfl
    ·rw [if_neg hw,w64k (by omega) (by omega),List.filter_cons,if_neg (by simpa using hw),List.filter_nil,List.map_nil,List.append_nil]
     rfl
  exact Ev.bind hS (Ev.congr (fun k=>by rw [if_pos rfl];rfl) (main l.length 0 (by omega)))
end Go.Proofs.YthpkjkcfhipjhaaGreatDoor
end
section
namespace Go.Proofs.YthpkjkcfhipjhaaGreatDoor
set_option linter.unusedVariables false
set_option linter.unusedSimpArgs false
open Go.RowKit Go.Proofs.YthpkjkcfhipjhaaGreatDoorW.PrintWords Go.Proofs.YthpkjkcfhipjhaaGreatDoorW.PrintLast PRW PZA PZF PZB
theorem rshow_ev (l : List S64) (hr : rngL l = true) : Ev (fun k=>freshetref02_Show.f k l) (bs (showR l)):=by
 have h:=rsound_ev l hr
 cases hs : soundL l
 ·have e : showR l = []:=by unfold showR;rw [hs];rfl
  rw [e]
  rw [hs] at h
  refine Ev.bind h (Ev.congr (f:=fun _=>some _) (fun k=>?_) (Ev.now _))
  rw [if_neg Bool.false_ne_true];rfl
 ·have e : showR l = 40 :: (Lib.join (l.map shV) [44,32] ++ [41]):=by unfold showR;rw [hs];rfl
  rw [e]
  rw [hs] at h
  have nl:=(sound_all hs hr).2
  have main : ∀ d i : Nat,i + d = l.length → Ev (fun k=>freshetref02_Show.l0 k l (bs (40 :: Lib.join ((l.take i).map shV) [44,32])) (i : Int)) (bs (40 :: (Lib.join (l.map shV) [44,32] ++ [41]))):=by
   intro d
   induction d with
   | zero =>
    intro i hi
    rw [List.take_of_length_le (by omega)]
    have hj:=shows_le l hr l.length
    rw [List.take_of_length_le (by omega)] at hj
    refine Ev.step (f:=fun _=>some _) (fun k=>?_) (Ev.now _)
    simp only [freshetref02_Show.l0]
    rw [if_neg (by omega),if_pos (by rw [bs_size,List.length_cons];omega)]
    congr 1
   | succ d ih =>
    intro i hi
    have h1 : i < l.length:=by omega
    have hm:=List.getElem_mem h1
    have hx : xrShow.f (l[i]).f0 (l[i]).f1 (l[i]).f2 (l[i]).f3 = some (bs (shV l[i])):=by unfold xrShow.f;exact if_pos ⟨rngL_I hr _ hm,rngL_U hr _ hm⟩
    have ih2:=ih (i + 1) (by omega)
    have hj:=shows_le l hr i
    have hv:=shV_len l[i] (rngL_I hr _ hm)
    by_cases h0 : i = 0
    ·subst h0
     have e1 : bs (40 :: Lib.join ((l.take (0 + 1)).map shV) [44,32]) = bs (40 :: Lib.join ((l.take 0).map shV) [44,32]) ++ bs (shV l[0]):=by
      rw [List.take_succ_eq_append_getElem h1,bs_app2]
      simp [Lib.join_one,Lib.join_nil]
     rw [e1] at ih2
     refine Ev.step (fun k=>?_) ih2
     simp only [freshetref02_Show.l0]
     rw [if_pos (by omega),if_neg (by omega),if_pos (by omega),rd_at l 0 h1,hx,Option.bind_some,if_pos (by rw [bs_size,bs_size,List.length_cons];omega),w64k (by omega) (by omega)]
     rfl
    ·have e1 : bs (40 :: Lib.join ((l.take (i + 1)).map shV) [44,32]) = (bs (40 :: Lib.join ((l.take i).map shV) [44,32]) ++ ⟨#[44,32]⟩) ++ bs (shV l[i]):=by
      rw [List.take_succ_eq_append_getElem h1,List.map_append]
      have hne : (l.take i).map shV ≠ []:=by
       intro h
       have:=congrArg List.length h
       rw [List.length_map,List.length_take,List.length_nil] at this
       omega
      have : Lib.join ((l.take i).map shV ++ [l[i]].map shV) [44,32] = Lib.join ((l.take i).map shV) [44,32] ++ [44,32] ++ shV l[i]:=join_snoc _ _ _ hne
      rw [this,show (⟨#[44,32]⟩ : ByteArray) = bs [44,32] from rfl,bs_app2,bs_app2];rfl
     rw [e1] at ih2
     refine Ev.step (fun k=>?_) ih2
     simp only [freshetref02_Show.l0]
     rw [if_pos (by omega),if_pos (by omega),if_pos (by rw [bs_size,List.length_cons];omega),if_pos (by omega),rd_at l i h1,hx,Option.bind_some,if_pos (by rw [ByteArray.size_append,bs_size,bs_size,List.length_cons];show _ + 1 + 2 + _ ≤ _;omega),w64k (by omega) (by omega)]
     rfl
  refine Ev.bind h (Ev.congr (fun k=>?_) (main l.length 0 (by omega)))
  rw [if_pos rfl];rfl
theorem weight3_ev (l : List S48) (r : List S64) (hr : rngE l = true) (hl : l.length ≤ 1000000) (hrr : rngL r = true) : Ev (fun k=>freshetref03_Weight.f k l r) (weightP l r):=by
 have hS:=sound3_ev l hr hl
 have hR:=rsound_ev r hrr
 have J1 : Ev (fun k=>freshetref03_Weight.j0 k l r true) (0 : Int):=by
  refine Ev.step (f:=fun _=>some 0) (fun k=>?_) (Ev.now _)
  simp only [freshetref03_Weight.j0,if_true]
 unfold weightP
 cases hs : soundZ l
 ·rw [hs] at hS
  exact Ev.bind hS (Ev.congr (fun k=>if_neg Bool.false_ne_true) J1)
 ·rw [hs] at hS
  refine Ev.bind hS (Ev.congr (f:=fun k=>(freshetref02_Sound.f k r).bind fun t=>freshetref03_Weight.j0 k l r (!t)) (fun k=>if_pos rfl) ?_)
  cases hs2 : soundL r
  ·rw [hs2] at hR
   exact Ev.bind hR J1
  ·rw [hs2] at hR
   refine Ev.bind hR ?_
   obtain ⟨hp,hz⟩:=soundZ_parts hr hs
   have hok : okR r = true:=okR_iff.2 ⟨hs2,hrr⟩
   have hle:=(sound_all hs2 hrr).2
   have main : ∀ d i : Nat,i + d = l.length → Ev (fun k=>freshetref03_Weight.l0 k l r (i : Int)) (wt cT ((l.drop i).map prE) r):=by
    intro d
    induction d with
    | zero =>
     intro i hi
     rw [List.drop_of_length_le (by omega)]
     refine Ev.step (f:=fun _=>some 0) (fun k=>?_) (Ev.now _)
     simp only [freshetref03_Weight.l0]
     rw [if_neg (by omega)]
    | succ d ih =>
     intro i hi
     have h1 : i < l.length:=by omega
     have nxt:=ih (i + 1) (by omega)
     obtain ⟨_,_,p3,p4,p5⟩:=hp _ (List.getElem_mem h1)
     have ho1 : okR l[i].f0 = true:=okR_iff.2 ⟨p3,p4⟩
     have hsm:=same_ev l[i].f0 r (by omega)
     have hdr : l.drop i = l[i] :: l.drop (i + 1):=List.drop_eq_getElem_cons h1
     refine Ev.step (f:=fun k=>(freshetref02_Same.f k l[i].f0 r).bind fun t=>if t = true then some l[i].f1 else freshetref03_Weight.l0 k l r ((i + 1 : Nat) : Int)) (fun k=>?_) (Ev.bind hsm ?_)
     ·simp only [freshetref03_Weight.l0]
      rw [if_pos (by omega),if_pos (by omega),rd_atE l i h1,w64k (by omega) (by omega)]
      rfl
     ·rw [hdr,List.map_cons,wt_cons]
      have hzd : Zst cT ((l.drop i).map prE):=hz.sublist ((List.drop_sublist i l).map prE)
      rw [hdr,List.map_cons] at hzd
      by_cases he : l[i].f0 = r
      ·rw [decide_eq_true he]
       have e1 : eqR cT r (prE l[i]).1 = true:=decide_eq_true (by show cT r l[i].f0 = 0;rw [he];have:=cT_ord.anti r r;omega)
       have e2 : wt cT ((l.drop (i + 1)).map prE) r = 0:=by
        have:=wt_none cT _ _ hzd.notHead
        rw [← he];exact this
       rw [if_pos e1,e2,Int.add_zero]
       exact Ev.congr (f:=fun _=>some l[i].f1) (fun k=>if_pos rfl) (Ev.now _)
      ·rw [decide_eq_false he]
       have e1 : ¬ eqR cT r (prE l[i]).1 = true:=fun h=>he (cT_same _ _ hok ho1 (of_decide_eq_true h)).symm
       rw [if_neg e1,Int.zero_add]
       exact Ev.congr (fun k=>if_neg Bool.false_ne_true) nxt
   refine Ev.step (fun k=>?_) (main l.length 0 (by omega))
   simp only [freshetref03_Weight.j0]
   rfl
theorem show3_ev (l : List S48) (hr : rngE l = true) (hl : l.length ≤ 1000) : Ev (fun k=>freshetref03_Show.f k l) (bs (showZ l)):=by
 have hS:=sound3_ev l hr (by omega)
 cases hs : soundZ l
 ·rw [hs] at hS
  have e : showZ l = []:=by unfold showZ;rw [hs];rfl
  rw [e]
  exact Ev.bind hS (Ev.congr (f:=fun _=>some _) (fun k=>if_neg Bool.false_ne_true) (Ev.now _))
 ·rw [hs] at hS
  have e : showZ l = Lib.join (l.map partZ) [32]:=by unfold showZ;rw [hs];rfl
  rw [e]
  obtain ⟨hp,_⟩:=soundZ_parts hr hs
  have plen : ∀ x ∈ l,(partZ x).length ≤ 16781400:=fun x hx=>by
   obtain ⟨_,_,_,h4,h5⟩:=hp x hx
   have h1:=showR_len x.f0 h4 h5
   have h2:=Lib.itoa_length_le x.f1 (rngE_at hr x hx).2.1 (rngE_at hr x hx).2.2
   unfold partZ
   rw [List.length_append,List.length_append]
   simp only [List.length_cons,List.length_nil]
   omega
  have slen : ∀ i,(Lib.join ((l.take i).map partZ) [32]).length ≤ 16781402000:=fun i=>by
   have hj:=join_le1 16781400 ((l.take i).map partZ) (fun x hx=>by obtain ⟨y,hy,rfl⟩:=List.mem_map.1 hx;exact plen y (List.mem_of_mem_take hy))
   rw [List.length_map,List.length_take] at hj
   have : min i l.length ≤ 1000:=by omega
   have:=Nat.mul_le_mul_left (16781400 + 2) this
   omega
  have main : ∀ d i : Nat,i + d = l.length → Ev (fun k=>freshetref03_Show.l0 k l (bs (Lib.join ((l.take i).map partZ) [32])) (i : Int)) (bs (Lib.join (l.map partZ) [32])):=by
   intro d
   induction d with
   | zero =>
    intro i hi
    rw [List.take_of_length_le (by omega)]
    refine Ev.step (f:=fun _=>some _) (fun k=>?_) (Ev.now _)
    simp only [freshetref03_Show.l0]
    rw [if_neg (by omega)]
   | succ d ih =>
    intro i hi
    have h1 : i < l.length:=by omega
    have hm:=List.getElem_mem h1
    have ih2:=ih (i + 1) (by omega)
    obtain ⟨_,_,_,h4,h5⟩:=hp _ hm
    have hrow:=rshow_ev l[i].f0 h4
    have hrl:=showR_len l[i].f0 h4 h5
    have hit:=Lib.itoa_length_le l[i].f1 (rngE_at hr _ hm).2.1 (rngE_at hr _ hm).2.2
    have hI : xrShow.f 2 l[i].f1 0 ⟨#[]⟩ = some (bs (Lib.itoa l[i].f1)):=by
     unfold xrShow.f
     rw [if_pos ⟨(rngE_at hr _ hm).2,by decide,by decide⟩]
     have : showL 2 l[i].f1 0 ⟨#[]⟩ = Lib.itoa l[i].f1:=by simp [showL,soundV,eqV]
     rw [this];rfl
    obtain ⟨S,hSS⟩ : ∃ S,Lib.join ((l.take i).map partZ) [32] = S:=⟨_,rfl⟩
    have hsl:=slen i
    rw [hSS] at hsl ⊢
    by_cases h0 : i = 0
    ·subst h0
     have e1 : bs (Lib.join ((l.take (0 + 1)).map partZ) [32]) = ((bs S ++ bs (showR l[0].f0)) ++ ⟨#[120]⟩) ++ bs (Lib.itoa l[0].f1):=by
      have : S = []:=by rw [← hSS];rfl
      rw [this,List.take_succ_eq_append_getElem h1,show (⟨#[120]⟩ : ByteArray) = bs [120] from rfl,bs_app2,bs_app2,bs_app2]
      simp [partZ,Lib.join_one]
     rw [e1] at ih2
     refine Ev.step (f:=fun k=>(freshetref02_Show.f k l[0].f0).bind fun t195=>(if (bs S).size + t195.size ≤ 9223372036854775807 then (if (bs S ++ t195).size + 1 ≤ 9223372036854775807 then ((xrShow.f 2 l[0].f1 0 (⟨#[]⟩ : ByteArray)).bind fun t197=>(if ((bs S ++ t195) ++ (⟨#[120]⟩ : ByteArray)).size + t197.size ≤ 9223372036854775807 then (freshetref03_Show.l0 k l (((bs S ++ t195) ++ (⟨#[120]⟩ : ByteArray)) ++ t197) ((0 + 1 : Nat) : Int)) else none)) else none) else none)) (fun k=>?_) (Ev.bind hrow ?_)
     ·simp only [freshetref03_Show.l0]
      rw [if_pos (by omega),if_neg (by omega),if_pos (by omega),rd_atE l 0 h1,w64k (by omega) (by omega)]
      rfl
     ·refine Ev.congr (fun k=>?_) ih2
      rw [if_pos (by rw [bs_size,bs_size];omega),if_pos (by rw [ByteArray.size_append,bs_size,bs_size];omega),hI,Option.bind_some,if_pos (by rw [ByteArray.size_append,ByteArray.size_append,bs_size,bs_size,bs_size];show _ + _ + 1 + _ ≤ _;omega)]
    ·have e1 : bs (Lib.join ((l.take (i + 1)).map partZ) [32]) = (((bs S ++ ⟨#[32]⟩) ++ bs (showR l[i].f0)) ++ ⟨#[120]⟩) ++ bs (Lib.itoa l[i].f1):=by
      have hne : (l.take i).map partZ ≠ []:=by
       intro h
       have:=congrArg List.length h
       rw [List.length_map,List.length_take,List.length_nil] at this
       omega
      have : Lib.join ((l.take i).map partZ ++ [l[i]].map partZ) [32] = Lib.join ((l.take i).map partZ) [32] ++ [32] ++ partZ l[i]:=join_snoc _ _ _ hne
      rw [List.take_succ_eq_append_getElem h1,List.map_append,this,hSS,show (⟨#[120]⟩ : ByteArray) = bs [120] from rfl,show (⟨#[32]⟩ : ByteArray) = bs [32] from rfl,bs_app2,bs_app2,bs_app2,bs_app2]
      simp [partZ]
     rw [e1] at ih2
     refine Ev.step (f:=fun k=>(freshetref02_Show.f k l[i].f0).bind fun t191=>(if (bs S ++ (⟨#[32]⟩ : ByteArray)).size + t191.size ≤ 9223372036854775807 then (if ((bs S ++ (⟨#[32]⟩ : ByteArray)) ++ t191).size + 1 ≤ 9223372036854775807 then ((xrShow.f 2 l[i].f1 0 (⟨#[]⟩ : ByteArray)).bind fun t193=>(if (((bs S ++ (⟨#[32]⟩ : ByteArray)) ++ t191) ++ (⟨#[120]⟩ : ByteArray)).size + t193.size ≤ 9223372036854775807 then (freshetref03_Show.l0 k l ((((bs S ++ (⟨#[32]⟩ : ByteArray)) ++ t191) ++ (⟨#[120]⟩ : ByteArray)) ++ t193) ((i + 1 : Nat) : Int)) else none)) else none) else none)) (fun k=>?_) (Ev.bind hrow ?_)
     ·simp only [freshetref03_Show.l0]
      rw [if_pos (by omega),if_pos (by omega),if_pos (by rw [bs_size];omega),if_pos (by omega),rd_atE l i h1,w64k (by omega) (by omega)]
      rfl
     ·refine Ev.congr (fun k=>?_) ih2
      have z1 : (⟨#[32]⟩ : ByteArray).size = 1:=rfl
      have z2 : (⟨#[120]⟩ : ByteArray).size = 1:=rfl
      rw [if_pos (by rw [ByteArray.size_append,bs_size,bs_size,z1];omega),if_pos (by rw [ByteArray.size_append,ByteArray.size_append,bs_size,bs_size,z1];omega),hI,Option.bind_some,if_pos (by rw [ByteArray.size_append,ByteArray.size_append,ByteArray.size_append,bs_size,bs_size,bs_size,z1,z2];omega)]
  exact Ev.bind hS (Ev.congr (fun k=>by rw [if_pos rfl];rfl) (main l.length 0 (by omega)))
end Go.Proofs.YthpkjkcfhipjhaaGreatDoor
end
