/- a part of the claim: what the card leans on, out of the texts XE3, EA1, EA2, EA3, EL5 (put together by wip/tools/shake.py). -/
import Derived.Test.YtakcjiinchghaaaGreatDoorQE5
import Derived.Test.YtakcjiinchghaaaGreatDoorQE6
import Derived.Test.YtakcjiinchghaaaGreatDoorQE7
import Derived.Test.YtakcjiinchghaaaGreatDoorQE8
section
namespace Go.Proofs.YtakcjiinchghaaaGreatDoor
set_option linter.unusedVariables false
set_option linter.unusedSimpArgs false
open Go.RowKit Go.Proofs.YtakcjiinchghaaaGreatDoorW.PrintWords Go.Proofs.YtakcjiinchghaaaGreatDoorW.PrintLast PRW
def xESound.f (l : List S41) (n : Int) : Option Bool:=if rngD l = true then some (soundE l n) else none
theorem xESound.calls (A0 : Option Addr) (c0 : Nat) (l : List S41) (n : Int) (r : Bool) (w : World) (hr0 : Kd.C k41 w A0 l.length l) (hc0 : l.length ≤ c0) (h : xESound.f l n = some r) :
  Calls Tryz.prog 13 #[.slice A0 l.length c0,.int .i64 n] w fun e w'=>e = .returned (.bool r) ∧ Below w.heap.size w w':=by
 obtain ⟨hl,rfl⟩:=ext_of h
 exact esound_c A0 c0 l n w hr0 hc0 (fun d hd=>(rngD_at hl d hd).2.1)
def xEval.f (l : List S41) (m : List S29) : Option (Int × Int × Int × ByteArray × Int) :=
 if rngD l = true ∧ rngL m = true then some ((evalE l m).v.f0,(evalE l m).v.f1,(evalE l m).v.f2,(evalE l m).v.f3,(evalE l m).e) else none
theorem xEval.calls (A0 : Option Addr) (c0 : Nat) (l : List S41) (A1 : Option Addr) (c1 : Nat) (m : List S29) (r1 r2 r3 : Int) (r4 : ByteArray) (r5 : Int) (w : World) (hr0 : Kd.C k41 w A0 l.length l) (hc0 : l.length ≤ c0) (hr1 : Kd.C k29 w A1 m.length m) (hc1 : m.length ≤ c1) (hT : ETab w) (h : xEval.f l m = some (r1,r2,r3,r4,r5)) :
  Calls Tryz.prog 11 #[.slice A0 l.length c0,.slice A1 m.length c1] w fun e w'=>e = .returned (.tuple #[.agg #[.int .i64 r1,.int .i64 r2,.int .u64 r3,.string r4],.int .i64 r5]) ∧ Below w.heap.size w w':=by
 obtain ⟨⟨hl,hm⟩,he⟩:=ext_of h
 simp only [Prod.mk.injEq] at he
 obtain ⟨rfl,rfl,rfl,rfl,rfl⟩:=he
 exact eval_c A0 c0 l A1 c1 m w hr0 hc0 hr1 hT.pow (fun d hd=>(rngD_at hl d hd).2.1) (rngL_I hm)
def xType.f (l : List S41) (m : List S57) : Option (Int × Bool × Bool):=if rngD l = true then some (typeE l m) else none
theorem xType.calls (A0 : Option Addr) (c0 : Nat) (l : List S41) (A1 : Option Addr) (c1 : Nat) (m : List S57) (r1 : Int) (r2 r3 : Bool) (w : World) (hr0 : Kd.C k41 w A0 l.length l) (hc0 : l.length ≤ c0) (hr1 : Kd.C k57 w A1 m.length m) (hc1 : m.length ≤ c1) (h : xType.f l m = some (r1,r2,r3)) :
  Calls Tryz.prog 15 #[.slice A0 l.length c0,.slice A1 m.length c1] w fun e w'=>e = .returned (.tuple #[.int .i64 r1,.bool r2,.bool r3]) ∧ Below w.heap.size w w':=by
 obtain ⟨hl,he⟩:=ext_of h
 have:=type_c kfn A0 c0 l A1 c1 m w hr0 hc0 hr1 (fun d hd=>(rngD_at hl d hd).2.1)
 rw [he] at this
 exact this
def xSafe.f (l : List S41) (m : List S57) : Option Bool:=if rngD l = true then some (safeE l m) else none
theorem xSafe.calls (A0 : Option Addr) (c0 : Nat) (l : List S41) (A1 : Option Addr) (c1 : Nat) (m : List S57) (r : Bool) (w : World) (hr0 : Kd.C k41 w A0 l.length l) (hc0 : l.length ≤ c0) (hr1 : Kd.C k57 w A1 m.length m) (hc1 : m.length ≤ c1) (h : xSafe.f l m = some r) :
  Calls Tryz.prog 17 #[.slice A0 l.length c0,.slice A1 m.length c1] w fun e w'=>e = .returned (.bool r) ∧ Below w.heap.size w w':=by
 obtain ⟨hl,rfl⟩:=ext_of h
 exact safe_c kfn A0 c0 l A1 c1 m w hr0 hc0 hr1 (fun d hd=>(rngD_at hl d hd).2.1)
def xMove.f (l : List S41) (m : List Int) : Option (List S41 × Int):=if l.length ≤ 2513169434843 then some (moveE l m,moveF l m) else none
theorem xMove.calls (A0 : Option Addr) (c0 : Nat) (l : List S41) (A1 : Option Addr) (c1 : Nat) (m : List Int) (r1 : List S41) (r2 : Int) (w : World) (hr0 : Kd.C k41 w A0 l.length l) (hc0 : l.length ≤ c0) (hr1 : Kd.C (Kd.int .i64) w A1 m.length m) (hc1 : m.length ≤ c1) (h : xMove.f l m = some (r1,r2)) :
  Calls Tryz.prog 19 #[.slice A0 l.length c0,.slice A1 m.length c1] w fun e w'=>∃ v0_ : Value,e = .returned (.tuple #[v0_,.int .i64 r2]) ∧ Kd.R k41 41 w' w.heap.size (fun _=>True) v0_ r1 ∧ Below w.heap.size w w':=by
 obtain ⟨hl,he⟩:=ext_of h
 simp only [Prod.mk.injEq] at he
 obtain ⟨rfl,rfl⟩:=he
 exact move_c A0 c0 l A1 c1 m w hr0 hr1 hl
def xCols.f (l : List S41) : Option (List Int):=if l.length ≤ 2513169434843 then some (colsE l) else none
theorem xCols.calls (A0 : Option Addr) (c0 : Nat) (l : List S41) (r : List Int) (w : World) (hr0 : Kd.C k41 w A0 l.length l) (hc0 : l.length ≤ c0) (h : xCols.f l = some r) :
  Calls Tryz.prog 23 #[.slice A0 l.length c0] w fun e w'=>∃ v0_ : Value,e = .returned v0_ ∧ Kd.R (Kd.int .i64) 3 w' w.heap.size (fun _=>True) v0_ r ∧ Below w.heap.size w w':=by
 obtain ⟨hl,rfl⟩:=ext_of h
 exact cols_c A0 c0 l w hr0 hl
/-- the codes of all steps are such numbers as the machine has -/
def rngC (e : List S41) : Bool:=e.all fun d=>decide (-9223372036854775808 ≤ d.f0) && decide (d.f0 ≤ 9223372036854775807)
def xEShow.f (l : List S41) : Option ByteArray:=if rngD l = true ∧ rngC l = true ∧ l.length ≤ 1000000 ∧ (l.all fun d=>decide ((stepS d).size ≤ 1099511627776)) = true then xJoin.f (partsE l) ⟨#[32]⟩ else none
theorem xEShow.calls (A0 : Option Addr) (c0 : Nat) (l : List S41) (r : ByteArray) (w : World) (hr0 : Kd.C k41 w A0 l.length l) (hc0 : l.length ≤ c0) (hT : ETab w) (h : xEShow.f l = some r) :
  Calls Tryz.prog 25 #[.slice A0 l.length c0] w fun e w'=>e = .returned (.string r) ∧ Below w.heap.size w w':=by
 unfold xEShow.f at h
 split at h
 ·rename_i hc
  refine eshow_c A0 c0 l w hr0 hT (fun d hd=>?_) hc.2.2.1 (fun d hd=>of_decide_eq_true (List.all_eq_true.1 hc.2.2.2 d hd)) r h
  have h1:=List.all_eq_true.1 hc.2.1 d hd
  simp only [Bool.and_eq_true,decide_eq_true_eq] at h1
  have h2:=rngD_at hc.1 d hd
  exact ⟨⟨h1.1,h1.2⟩,h2.1,h2.2.1,h2.2.2⟩
 ·cases h
end Go.Proofs.YtakcjiinchghaaaGreatDoor
end
section
namespace Go.Proofs.YtakcjiinchghaaaGreatDoor
set_option linter.unusedVariables false
set_option linter.unusedSimpArgs false
open Go.RowKit Go.Proofs.YtakcjiinchghaaaGreatDoorW.PrintWords Go.Proofs.YtakcjiinchghaaaGreatDoorW.PrintLast PRW
theorem flat_at {α β : Type} (enc : α → List β) (s : Nat) (hs : ∀ x,(enc x).length = s) : ∀ (l : List α) (j : Nat) (x : α) (i : Nat),l[j]? = some x → i < s → (l.flatMap enc)[j * s + i]? = (enc x)[i]?
 | [],j,x,i,h,_=>by simp at h
 | q :: t,0,x,i,h,hi=>by
  simp at h;subst h
  rw [List.flatMap_cons,Nat.zero_mul,Nat.zero_add,List.getElem?_append_left (by rw [hs];exact hi)]
 | q :: t,j + 1,x,i,h,hi=>by
  have:=flat_at enc s hs t j x i (by simpa using h) hi
  rw [List.flatMap_cons,List.getElem?_append_right (by rw [hs,Nat.succ_mul];omega),hs,show (j + 1) * s + i - s = j * s + i by rw [Nat.succ_mul];omega]
  exact this
/-- a row that is laid out of things whose cells are known -/
theorem C_lit {α : Type} {d : Kd α} (enc : α → List Value) (hsz : ∀ x,(enc x).length = d.sz) (hK : ∀ w x,d.K w x (enc x)) (W : World) (t : TypeId) (l : List α) (hl : l.length ≤ 9223372036854775807) :
  Kd.C d (W.alloc (.cells (l.flatMap enc).toArray t (0,0))) (some ⟨W.heap.size,0,none⟩) l.length l:=by
 refine ⟨rfl,hl,fun _=>⟨_,rfl,fun j x hx=>⟨enc x,hsz x,hK _ x,fun i u hu=>?_⟩⟩⟩
 have hi : i < d.sz:=by rw [← hsz x];exact (List.getElem?_eq_some_iff.1 hu).1
 have hblk:=heap_alloc_new W (.cells (l.flatMap enc).toArray t (0,0))
 have e : ((⟨W.heap.size,0,none⟩ : Addr).add (j * d.sz + i)) = ⟨W.heap.size,j * d.sz + i,none⟩:=by
  unfold Addr.add;split <;> simp_all
 rw [e,blk_cell hblk,List.getElem?_toArray,flat_at enc d.sz hsz l j x i hx hi]
 exact hu
theorem nilC5 {α : Type} (d : Kd α) (W : World) : Kd.C d W none 0 []:=⟨rfl,by simp,fun h=>by simp at h⟩
def encD (x : S41) : List Value:=[.int .i64 x.f0,.int .i64 x.f1,.int .i64 x.f2.f0,.int .i64 x.f2.f1,.int .u64 x.f2.f2,.string x.f2.f3]
def encV (x : S29) : List Value:=[.int .i64 x.f0,.int .i64 x.f1,.int .u64 x.f2,.string x.f3]
def encC (x : S57) : List Value:=[.string x.f0,.int .i64 x.f1,.bool x.f2]
def encN (x : Int) : List Value:=[.int .i64 x]
/-- a world with steps, rows, columns, numbers that lie in it -/
structure SA (w0 W : World) (M : List (Option Addr × Nat × List S41)) (R : List (Option Addr × Nat × List S29)) (C : List (Option Addr × Nat × List S57)) (I : List (Option Addr × Nat × List Int)) : Prop where
 bel : Below w0.heap.size w0 W
 tab : ETab W
 dos : ∀ t ∈ M,t.2.2.length ≤ t.2.1 ∧ Kd.C k41 W t.1 t.2.2.length t.2.2
 rows : ∀ t ∈ R,t.2.2.length ≤ t.2.1 ∧ Kd.C k29 W t.1 t.2.2.length t.2.2
 cols : ∀ t ∈ C,t.2.2.length ≤ t.2.1 ∧ Kd.C k57 W t.1 t.2.2.length t.2.2
 nums : ∀ t ∈ I,t.2.2.length ≤ t.2.1 ∧ Kd.C (Kd.int .i64) W t.1 t.2.2.length t.2.2
section
variable {w0 W W' : World} {M : List (Option Addr × Nat × List S41)} {R : List (Option Addr × Nat × List S29)} {C : List (Option Addr × Nat × List S57)} {I : List (Option Addr × Nat × List Int)}
theorem SA.below (h : SA w0 W M R C I) (hb : Below W.heap.size W W') : SA w0 W' M R C I :=
 ⟨h.bel.trans (hb.mono h.bel.size),h.tab.below hb,fun t ht=>⟨(h.dos t ht).1,Kd.C_below (h.dos t ht).2 hb⟩,fun t ht=>⟨(h.rows t ht).1,Kd.C_below (h.rows t ht).2 hb⟩,fun t ht=>⟨(h.cols t ht).1,Kd.C_below (h.cols t ht).2 hb⟩,fun t ht=>⟨(h.nums t ht).1,Kd.C_below (h.nums t ht).2 hb⟩⟩
theorem SA.addD (h : SA w0 W M R C I) {A : Option Addr} {c : Nat} {l : List S41} (hc : l.length ≤ c) (hC : Kd.C k41 W A l.length l) : SA w0 W ((A,c,l) :: M) R C I :=
 ⟨h.bel,h.tab,List.forall_mem_cons.2 ⟨⟨hc,hC⟩,h.dos⟩,h.rows,h.cols,h.nums⟩
theorem SA.addR (h : SA w0 W M R C I) {A : Option Addr} {c : Nat} {l : List S29} (hc : l.length ≤ c) (hC : Kd.C k29 W A l.length l) : SA w0 W M ((A,c,l) :: R) C I :=
 ⟨h.bel,h.tab,h.dos,List.forall_mem_cons.2 ⟨⟨hc,hC⟩,h.rows⟩,h.cols,h.nums⟩
theorem SA.addC (h : SA w0 W M R C I) {A : Option Addr} {c : Nat} {l : List S57} (hc : l.length ≤ c) (hC : Kd.C k57 W A l.length l) : SA w0 W M R ((A,c,l) :: C) I :=
 ⟨h.bel,h.tab,h.dos,h.rows,List.forall_mem_cons.2 ⟨⟨hc,hC⟩,h.cols⟩,h.nums⟩
theorem SA.addI (h : SA w0 W M R C I) {A : Option Addr} {c : Nat} {l : List Int} (hc : l.length ≤ c) (hC : Kd.C (Kd.int .i64) W A l.length l) : SA w0 W M R C ((A,c,l) :: I) :=
 ⟨h.bel,h.tab,h.dos,h.rows,h.cols,List.forall_mem_cons.2 ⟨⟨hc,hC⟩,h.nums⟩⟩
theorem SA.al (h : SA w0 W M R C I) (o : Obj) : SA w0 (W.alloc o) M R C I:=h.below ((Below.refl _ _).alloc (Nat.le_refl _) _)
theorem SA.litD (h : SA w0 W M R C I) (l : List S41) (hl : l.length ≤ 9223372036854775807) : SA w0 (W.alloc (.cells (l.flatMap encD).toArray 41 (0,0))) ((some ⟨W.heap.size,0,none⟩,l.length,l) :: M) R C I :=
 (h.al _).addD (Nat.le_refl _) (C_lit encD (fun _=>rfl) (fun w x=>k41_mk w x) W _ l hl)
theorem SA.litR (h : SA w0 W M R C I) (l : List S29) (hl : l.length ≤ 9223372036854775807) : SA w0 (W.alloc (.cells (l.flatMap encV).toArray 29 (0,0))) M ((some ⟨W.heap.size,0,none⟩,l.length,l) :: R) C I :=
 (h.al _).addR (Nat.le_refl _) (C_lit encV (fun _=>rfl) (fun w x=>k29_mk w x) W _ l hl)
theorem SA.litC (h : SA w0 W M R C I) (l : List S57) (hl : l.length ≤ 9223372036854775807) : SA w0 (W.alloc (.cells (l.flatMap encC).toArray 57 (0,0))) M R ((some ⟨W.heap.size,0,none⟩,l.length,l) :: C) I :=
 (h.al _).addC (Nat.le_refl _) (C_lit encC (fun _=>rfl) (fun w x=>k57_mk w x) W _ l hl)
theorem SA.litI (h : SA w0 W M R C I) (l : List Int) (hl : l.length ≤ 9223372036854775807) : SA w0 (W.alloc (.cells (l.flatMap encN).toArray 3 (0,0))) M R C ((some ⟨W.heap.size,0,none⟩,l.length,l) :: I) :=
 (h.al _).addI (Nat.le_refl _) (C_lit encN (fun _=>rfl) (fun w x=>rfl) W _ l hl)
theorem eval_s (h : SA w0 W M R C I) {A B : Option Addr} {c d : Nat} {l : List S41} {k : List S29} {r1 r2 r3 : Int} {r4 : ByteArray} {r5 : Int} (hm : (A,c,l) ∈ M) (hk : (B,d,k) ∈ R) (hf : xEval.f l k = some (r1,r2,r3,r4,r5)) (m m' : Nat) (hl : l.length = m) (hl' : k.length = m') :
  Calls Tryz.prog 11 #[.slice A m c,.slice B m' d] W fun e w'=>e = .returned (.tuple #[.agg #[.int .i64 r1,.int .i64 r2,.int .u64 r3,.string r4],.int .i64 r5]) ∧ SA w0 w' M R C I:=by
 subst hl;subst hl'
 refine (xEval.calls A c l B d k r1 r2 r3 r4 r5 W (h.dos _ hm).2 (h.dos _ hm).1 (h.rows _ hk).2 (h.rows _ hk).1 h.tab hf).mono ?_
 rintro e w' ⟨rfl,hb⟩
 exact ⟨rfl,h.below hb⟩
theorem type_s (h : SA w0 W M R C I) {A B : Option Addr} {c d : Nat} {l : List S41} {k : List S57} {r1 : Int} {r2 r3 : Bool} (hm : (A,c,l) ∈ M) (hk : (B,d,k) ∈ C) (hf : xType.f l k = some (r1,r2,r3)) (m m' : Nat) (hl : l.length = m) (hl' : k.length = m') :
  Calls Tryz.prog 15 #[.slice A m c,.slice B m' d] W fun e w'=>e = .returned (.tuple #[.int .i64 r1,.bool r2,.bool r3]) ∧ SA w0 w' M R C I:=by
 subst hl;subst hl'
 refine (xType.calls A c l B d k r1 r2 r3 W (h.dos _ hm).2 (h.dos _ hm).1 (h.cols _ hk).2 (h.cols _ hk).1 hf).mono ?_
 rintro e w' ⟨rfl,hb⟩
 exact ⟨rfl,h.below hb⟩
theorem safe_s (h : SA w0 W M R C I) {A B : Option Addr} {c d : Nat} {l : List S41} {k : List S57} {r : Bool} (hm : (A,c,l) ∈ M) (hk : (B,d,k) ∈ C) (hf : xSafe.f l k = some r) (m m' : Nat) (hl : l.length = m) (hl' : k.length = m') :
  Calls Tryz.prog 17 #[.slice A m c,.slice B m' d] W fun e w'=>e = .returned (.bool r) ∧ SA w0 w' M R C I:=by
 subst hl;subst hl'
 refine (xSafe.calls A c l B d k r W (h.dos _ hm).2 (h.dos _ hm).1 (h.cols _ hk).2 (h.cols _ hk).1 hf).mono ?_
 rintro e w' ⟨rfl,hb⟩
 exact ⟨rfl,h.below hb⟩
theorem move_s (h : SA w0 W M R C I) {A B : Option Addr} {c d : Nat} {l r1 : List S41} {k : List Int} {r2 : Int} (hm : (A,c,l) ∈ M) (hk : (B,d,k) ∈ I) (hf : xMove.f l k = some (r1,r2)) (m m' n : Nat) (hl : l.length = m) (hl' : k.length = m') (hn : r1.length = n) :
  Calls Tryz.prog 19 #[.slice A m c,.slice B m' d] W fun e w'=>∃ A c,e = .returned (.tuple #[.slice A n c,.int .i64 r2]) ∧ SA w0 w' ((A,c,r1) :: M) R C I:=by
 subst hl;subst hl'
 refine (xMove.calls A c l B d k r1 r2 W (h.dos _ hm).2 (h.dos _ hm).1 (h.nums _ hk).2 (h.nums _ hk).1 hf).mono ?_
 rintro e w' ⟨v,rfl,hR,hb⟩
 obtain ⟨A,c,rfl,hc,hC⟩:=Kd.R_reads hR
 exact ⟨A,c,by rw [hn],(h.below hb).addD hc hC⟩
theorem cols_s (h : SA w0 W M R C I) {A : Option Addr} {c : Nat} {l : List S41} {r : List Int} (hm : (A,c,l) ∈ M) (hf : xCols.f l = some r) (m n : Nat) (hl : l.length = m) (hn : r.length = n) :
  Calls Tryz.prog 23 #[.slice A m c] W fun e w'=>∃ A c,e = .returned (.slice A n c) ∧ SA w0 w' M R C ((A,c,r) :: I):=by
 subst hl
 refine (xCols.calls A c l r W (h.dos _ hm).2 (h.dos _ hm).1 hf).mono ?_
 rintro e w' ⟨v,rfl,hR,hb⟩
 obtain ⟨A,c,rfl,hc,hC⟩:=Kd.R_reads hR
 exact ⟨A,c,by rw [hn],(h.below hb).addI hc hC⟩
theorem sound_s (h : SA w0 W M R C I) {A : Option Addr} {c : Nat} {l : List S41} {n : Int} {r : Bool} (hm : (A,c,l) ∈ M) (hf : xESound.f l n = some r) (m : Nat) (hl : l.length = m) :
  Calls Tryz.prog 13 #[.slice A m c,.int .i64 n] W fun e w'=>e = .returned (.bool r) ∧ SA w0 w' M R C I:=by
 subst hl
 refine (xESound.calls A c l n r W (h.dos _ hm).2 (h.dos _ hm).1 hf).mono ?_
 rintro e w' ⟨rfl,hb⟩
 exact ⟨rfl,h.below hb⟩
theorem show_s (h : SA w0 W M R C I) {A : Option Addr} {c : Nat} {l : List S41} {r : ByteArray} (hm : (A,c,l) ∈ M) (hf : xEShow.f l = some r) (m : Nat) (hl : l.length = m) :
  Calls Tryz.prog 25 #[.slice A m c] W fun e w'=>e = .returned (.string r) ∧ SA w0 w' M R C I:=by
 subst hl
 refine (xEShow.calls A c l r W (h.dos _ hm).2 (h.dos _ hm).1 h.tab hf).mono ?_
 rintro e w' ⟨rfl,hb⟩
 exact ⟨rfl,h.below hb⟩
theorem same_s (h : SA w0 W M R C I) {A B : Option Addr} {c d : Nat} {l k : List Int} (hm : (A,c,l) ∈ I) (hk : (B,d,k) ∈ I) {r : Bool} (hf : freshetlaw05_same.f 10 l k = some r) (m m' : Nat) (hl : l.length = m) (hl' : k.length = m') :
  Calls Tryz.prog 22 #[.slice A m c,.slice B m' d] W fun e w'=>e = .returned (.bool r) ∧ SA w0 w' M R C I:=by
 subst hl;subst hl'
 refine (freshetlaw05_same.calls 10 A c l B d k r W (h.nums _ hm).2 (h.nums _ hm).1 (h.nums _ hk).2 (h.nums _ hk).1 hf).mono ?_
 rintro e w' ⟨rfl,hd⟩
 exact ⟨rfl,h.below hd.below⟩
end
set_option maxRecDepth 100000 in
theorem num_c (n : Int) (W : World) : Calls Tryz.prog 29 #[.int .i64 n] W fun e w'=>e = .returned (.agg #[.int .i64 1,.int .i64 0,.int .i64 2,.int .i64 n,.int .u64 0,.string ⟨#[]⟩]) ∧ Below W.heap.size W w':=by
 go_enter Tryz.func29,Tryz.ntmps29
 go_wp2
 exact bodyPost_ret (v:=.agg #[.int .i64 1,.int .i64 0,.int .i64 2,.int .i64 n,.int .u64 0,.string ⟨#[]⟩]) (by simp [results,Tryz.results29,go_sem, *]) rfl ⟨rfl,(by repeat (first | (with_reducible exact Below.refl _ _) | (with_reducible refine below_al ?_ _) | (with_reducible refine below_drewN ?_ _) | (with_reducible refine Below.drew ?_) | (with_reducible refine below_via (by assumption) ?_) | (with_reducible refine below_sc ?_ ?_ _;· (first | (simp;done) | (simp;omega) | omega))))⟩
theorem num_s {w0 W : World} {M : List (Option Addr × Nat × List S41)} {R : List (Option Addr × Nat × List S29)} {C : List (Option Addr × Nat × List S57)} {I : List (Option Addr × Nat × List Int)} (h : SA w0 W M R C I) (n : Int) :
  Calls Tryz.prog 29 #[.int .i64 n] W fun e w'=>e = .returned (.agg #[.int .i64 1,.int .i64 0,.int .i64 2,.int .i64 n,.int .u64 0,.string ⟨#[]⟩]) ∧ SA w0 w' M R C I:=by
 refine (num_c n W).mono ?_
 rintro e w' ⟨rfl,hb⟩
 exact ⟨rfl,h.below hb⟩
abbrev nD (n : Int) : S41:=⟨1,0,⟨2,n,0,⟨#[]⟩⟩⟩
abbrev cD (c : Int) : S41:=⟨c,0,⟨0,0,0,⟨#[]⟩⟩⟩
abbrev mD (n : Int) : S41:=⟨2,n,⟨0,0,0,⟨#[]⟩⟩⟩
theorem aw_eval1 : xEval.f [cD 2,nD 5,cD 10] [⟨2,3,0,⟨#[]⟩⟩] = some (2,8,0,⟨#[]⟩,0):=by kernel_rfl
theorem aw_eval2 : xEval.f [nD 5,nD 0,cD 13,nD 9223372036854775807,nD 1,cD 10,cD 16] [] = some (0,0,0,⟨#[]⟩,10):=by kernel_rfl
theorem aw_type : xType.f [cD 2,nD 5,cD 10] [⟨⟨#[]⟩,2,true⟩] = some (2,true,true):=by kernel_rfl
theorem aw_move : xMove.f [cD 2,nD 5,cD 10] [7] = some ([mD 7,nD 5,cD 10],0):=by kernel_rfl
theorem aw_cols : xCols.f [mD 7,nD 5,cD 10] = some [7]:=by
 have h : namesE [mD 7,nD 5,cD 10] = [7]:=by kernel_rfl
 unfold xCols.f colsE
 rw [h,if_pos (by decide)]
 rw [List.mergeSort_singleton]
 rfl
theorem aw_sound : xESound.f [cD 2,nD 5,cD 10] 1 = some true:=by kernel_rfl
theorem aw_show : xEShow.f [cD 2,nD 5,cD 10] = some ⟨#[50,58,48,32,49,58,53,32,49,48,58]⟩:=by kernel_rfl
theorem aw_same : freshetlaw05_same.f 10 [7] [7] = some true:=by kernel_rfl
theorem aw_safe1 : xSafe.f [cD 2,nD 5,cD 10] [⟨⟨#[]⟩,2,false⟩] = some false:=by kernel_rfl
theorem aw_safe2 : xSafe.f [cD 2] [⟨⟨#[]⟩,2,false⟩] = some true:=by kernel_rfl
end Go.Proofs.YtakcjiinchghaaaGreatDoor
end
section
namespace Go.Proofs.YtakcjiinchghaaaGreatDoor
set_option linter.unusedVariables false
set_option linter.unusedSimpArgs false
open Go.RowKit Go.Proofs.YtakcjiinchghaaaGreatDoorW.PrintWords Go.Proofs.YtakcjiinchghaaaGreatDoorW.PrintLast PRW
set_option maxRecDepth 1000000 in
set_option maxHeartbeats 16000000 in
theorem awake5_c (w : World) (hT : ETab w) : Calls Tryz.prog 10 #[] w fun e w'=>e = .returned (.bool true) ∧ Below w.heap.size w w':=by
 have HS0:=hidF (show SA w w [] [(none,0,[])] [] [] from ⟨Below.refl _ _,hT,fun t ht=>absurd ht List.not_mem_nil,List.forall_mem_cons.2 ⟨⟨Nat.le_refl _,nilC5 _ _⟩,fun t ht=>absurd ht List.not_mem_nil⟩,fun t ht=>absurd ht List.not_mem_nil,fun t ht=>absurd ht List.not_mem_nil⟩)
 clear hT
 go_enter Tryz.func10,Tryz.ntmps10
 go_wp2_with fail
 (with_reducible refine (num_s HS0.out 5).mono ?_)
 rintro e w1 ⟨rfl,hS⟩
 have HS1:=hidF hS
 clear hS HS0
 have HSL:=hidF (show SA w (w1.alloc (.cells #[.int .i64 (2),.int .i64 (0),.int .i64 (0),.int .i64 (0),.int .u64 0,.string ⟨#[]⟩,.int .i64 (1),.int .i64 (0),.int .i64 (2),.int .i64 (5),.int .u64 0,.string ⟨#[]⟩,.int .i64 (10),.int .i64 (0),.int .i64 (0),.int .i64 (0),.int .u64 0,.string ⟨#[]⟩] 41 (0,0))) _ _ _ _ from HS1.out.litD [cD 2,nD 5,cD 10] (by simp))
 clear HS1
 have HS1:=HSL
 clear HSL
 have HSL:=hidF (show SA w ((w1.alloc (.cells #[.int .i64 (2),.int .i64 (0),.int .i64 (0),.int .i64 (0),.int .u64 0,.string ⟨#[]⟩,.int .i64 (1),.int .i64 (0),.int .i64 (2),.int .i64 (5),.int .u64 0,.string ⟨#[]⟩,.int .i64 (10),.int .i64 (0),.int .i64 (0),.int .i64 (0),.int .u64 0,.string ⟨#[]⟩] 41 (0,0))).alloc (.cells #[.int .i64 (2),.int .i64 (3),.int .u64 0,.string ⟨#[]⟩] 29 (0,0))) _ _ _ _ from HS1.out.litR [⟨2,3,0,⟨#[]⟩⟩] (by simp))
 clear HS1
 have HS1:=HSL
 clear HSL
 go_wp2_with fail
 (with_reducible refine (eval_s HS1.out (l:=[cD 2,nD 5,cD 10]) (k:=[⟨2,3,0,⟨#[]⟩⟩]) (by simp) (by simp) aw_eval1 3 1 rfl rfl).mono ?_)
 rintro e w2 ⟨rfl,hS⟩
 have HS2:=hidF hS
 clear hS HS1
 have HSL:=hidF (show SA w (w2.alloc (.cells #[.int .i64 (2),.int .i64 (8),.int .u64 0,.string ⟨#[]⟩] 29 (0,0))) _ _ _ _ from HS2.out.litR [⟨2,8,0,⟨#[]⟩⟩] (by simp))
 clear HS2
 have HS2:=HSL
 clear HSL
 have HSL:=hidF (show SA w ((w2.alloc (.cells #[.int .i64 (2),.int .i64 (8),.int .u64 0,.string ⟨#[]⟩] 29 (0,0))).alloc (.cells #[.string ⟨#[]⟩,.int .i64 2,.bool true] 57 (0,0))) _ _ _ _ from HS2.out.litC [⟨⟨#[]⟩,2,true⟩] (by simp))
 clear HS2
 have HS2:=HSL
 clear HSL
 go_wp2_with fail
 (with_reducible refine (type_s HS2.out (l:=[cD 2,nD 5,cD 10]) (k:=[⟨⟨#[]⟩,2,true⟩]) (by simp) (by simp) aw_type 3 1 rfl rfl).mono ?_)
 rintro e w3 ⟨rfl,hS⟩
 have HS3:=hidF hS
 clear hS HS2
 go_wp2_with fail
 (with_reducible refine (num_s HS3.out 5).mono ?_)
 rintro e w4 ⟨rfl,hS⟩
 have HS4:=hidF hS
 clear hS HS3
 go_wp2_with fail
 (with_reducible refine (num_s HS4.out 0).mono ?_)
 rintro e w5 ⟨rfl,hS⟩
 have HS5:=hidF hS
 clear hS HS4
 go_wp2_with fail
 (with_reducible refine (num_s HS5.out 9223372036854775807).mono ?_)
 rintro e w6 ⟨rfl,hS⟩
 have HS6:=hidF hS
 clear hS HS5
 go_wp2_with fail
 (with_reducible refine (num_s HS6.out 1).mono ?_)
 rintro e w7 ⟨rfl,hS⟩
 have HS7:=hidF hS
 clear hS HS6
 have HSL:=hidF (show SA w (w7.alloc (.cells #[.int .i64 (1),.int .i64 (0),.int .i64 (2),.int .i64 (5),.int .u64 0,.string ⟨#[]⟩,.int .i64 (1),.int .i64 (0),.int .i64 (2),.int .i64 (0),.int .u64 0,.string ⟨#[]⟩,.int .i64 (13),.int .i64 (0),.int .i64 (0),.int .i64 (0),.int .u64 0,.string ⟨#[]⟩,.int .i64 (1),.int .i64 (0),.int .i64 (2),.int .i64 (9223372036854775807),.int .u64 0,.string ⟨#[]⟩,.int .i64 (1),.int .i64 (0),.int .i64 (2),.int .i64 (1),.int .u64 0,.string ⟨#[]⟩,.int .i64 (10),.int .i64 (0),.int .i64 (0),.int .i64 (0),.int .u64 0,.string ⟨#[]⟩,.int .i64 (16),.int .i64 (0),.int .i64 (0),.int .i64 (0),.int .u64 0,.string ⟨#[]⟩] 41 (0,0))) _ _ _ _ from HS7.out.litD [nD 5,nD 0,cD 13,nD 9223372036854775807,nD 1,cD 10,cD 16] (by simp))
 clear HS7
 have HS7:=HSL
 clear HSL
 go_wp2_with fail
 (with_reducible refine (eval_s HS7.out (l:=[nD 5,nD 0,cD 13,nD 9223372036854775807,nD 1,cD 10,cD 16]) (k:=[]) (by simp) (by simp) aw_eval2 7 0 rfl rfl).mono ?_)
 rintro e w8 ⟨rfl,hS⟩
 have HS8:=hidF hS
 clear hS HS7
 have HSL:=hidF (show SA w (w8.alloc (.cells #[.int .i64 (0),.int .i64 (0),.int .u64 0,.string ⟨#[]⟩] 29 (0,0))) _ _ _ _ from HS8.out.litR [⟨0,0,0,⟨#[]⟩⟩] (by simp))
 clear HS8
 have HS8:=HSL
 clear HSL
 have HSL:=hidF (show SA w ((w8.alloc (.cells #[.int .i64 (0),.int .i64 (0),.int .u64 0,.string ⟨#[]⟩] 29 (0,0))).alloc (.cells #[.int .i64 7] 3 (0,0))) _ _ _ _ from HS8.out.litI [7] (by simp))
 clear HS8
 have HS8:=HSL
 clear HSL
 go_wp2_with fail
 (with_reducible refine (move_s HS8.out (l:=[cD 2,nD 5,cD 10]) (k:=[7]) (by simp) (by simp) aw_move 3 1 3 rfl rfl rfl).mono ?_)
 rintro e w9 ⟨A9,c9,rfl,hS⟩
 have HS9:=hidF hS
 clear hS HS8
 go_wp2_with fail
 (with_reducible refine (sound_s HS9.out (l:=[cD 2,nD 5,cD 10]) (by simp) aw_sound 3 rfl).mono ?_)
 rintro e w10 ⟨rfl,hS⟩
 have HS10:=hidF hS
 clear hS HS9
 obtain ⟨ad,ea,k0,k1,k2,k3⟩:=at_T29 (HS10.out.rows (some ⟨w2.heap.size,0,none⟩,1,[⟨2,8,0,⟨#[]⟩⟩]) (by simp)).2 0 (by omega) (by simp)
 obtain rfl : ad = ⟨w2.heap.size,0,none⟩:=(Option.some.inj ea).symm
 clear ea
 obtain ⟨bd,eb,j0,j1,j2,j3,j4,j5⟩:=at_T41 (HS10.out.dos (A9,c9,[mD 7,nD 5,cD 10]) (by simp)).2 0 (by omega) (by simp)
 simp only [] at eb
 subst eb
 clear j0 j2 j3 j4 j5
 have j1 : w10.cell? ⟨bd.block,bd.off + 1,none⟩ = some (.int .i64 7):=by simpa [Addr.add,rd_T41] using j1
 have k0 : w10.cell? ⟨w2.heap.size,0,none⟩ = some (.int .i64 2):=by simpa [Addr.add,rd_T29] using k0
 have k1 : w10.cell? ⟨w2.heap.size,1,none⟩ = some (.int .i64 8):=by simpa [Addr.add,rd_T29] using k1
 have k2 : w10.cell? ⟨w2.heap.size,2,none⟩ = some (.int .u64 0):=by simpa [Addr.add,rd_T29] using k2
 have k3 : w10.cell? ⟨w2.heap.size,3,none⟩ = some (.string ⟨#[]⟩):=by simpa [Addr.add,rd_T29] using k3
 go_wp2_with fail
 (with_reducible refine (cols_s HS10.out (l:=[mD 7,nD 5,cD 10]) (by simp) aw_cols 3 1 rfl rfl).mono ?_)
 rintro e w11 ⟨A11,c11,rfl,hS⟩
 have HS11:=hidF hS
 clear hS HS10
 have HSL:=hidF (show SA w (w11.alloc (.cells #[.int .i64 7] 3 (0,0))) _ _ _ _ from HS11.out.litI [7] (by simp))
 clear HS11
 have HS11:=HSL
 clear HSL
 go_wp2_with fail
 (with_reducible refine (same_s HS11.out (l:=[7]) (k:=[7]) (by simp) (by simp) aw_same 1 1 rfl rfl).mono ?_)
 rintro e w12 ⟨rfl,hS⟩
 have HS12:=hidF hS
 clear hS HS11
 go_wp2_with fail
 (with_reducible refine (show_s HS12.out (l:=[cD 2,nD 5,cD 10]) (by simp) aw_show 3 rfl).mono ?_)
 rintro e w13 ⟨rfl,hS⟩
 have HS13:=hidF hS
 clear hS HS12
 have HSL:=hidF (show SA w (w13.alloc (.cells #[.string ⟨#[]⟩,.int .i64 2,.bool false] 57 (0,0))) _ _ _ _ from HS13.out.litC [⟨⟨#[]⟩,2,false⟩] (by simp))
 clear HS13
 have HS13:=HSL
 clear HSL
 go_wp2_with fail
 (with_reducible refine (safe_s HS13.out (l:=[cD 2,nD 5,cD 10]) (k:=[⟨⟨#[]⟩,2,false⟩]) (by simp) (by simp) aw_safe1 3 1 rfl rfl).mono ?_)
 rintro e w14 ⟨rfl,hS⟩
 have HS14:=hidF hS
 clear hS HS13
 have HSL:=hidF (show SA w (w14.alloc (.cells #[.string ⟨#[]⟩,.int .i64 2,.bool false] 57 (0,0))) _ _ _ _ from HS14.out.litC [⟨⟨#[]⟩,2,false⟩] (by simp))
 clear HS14
 have HS14:=HSL
 clear HSL
 have HSL:=hidF (HS14.out.addD (A:=some ⟨w1.heap.size,0,none⟩) (c:=3) (l:=[cD 2]) (by simp) (show Kd.C k41 _ _ 1 [cD 2] from Kd.C_take (m:=1) (HS14.out.dos (some ⟨w1.heap.size,0,none⟩,3,[cD 2,nD 5,cD 10]) (by simp)).2 (by simp)))
 clear HS14
 have HS14:=HSL
 clear HSL
 go_wp2_with fail
 (with_reducible refine (safe_s HS14.out (l:=[cD 2]) (k:=[⟨⟨#[]⟩,2,false⟩]) (by simp) (by simp) aw_safe2 1 1 rfl rfl).mono ?_)
 rintro e w15 ⟨rfl,hS⟩
 have HS15:=hidF hS
 clear hS HS14
 go_wp2_with fail
 exact bodyPost_ret (v:=.bool true) (by simp [results,Tryz.results10,go_sem, *]) rfl ⟨rfl,HS15.out.bel⟩
end Go.Proofs.YtakcjiinchghaaaGreatDoor
end
section
namespace Go.Proofs.YtakcjiinchghaaaGreatDoor
set_option linter.unusedVariables false
set_option linter.unusedSimpArgs false
open Go.RowKit Go.Proofs.YtakcjiinchghaaaGreatDoorW.PrintWords Go.Proofs.YtakcjiinchghaaaGreatDoorW.PrintLast PRW
def xAwake5.f : Option Bool:=some true
theorem xAwake5.calls (r : Bool) (w : World) (hT : ETab w) (h : xAwake5.f = some r) :
  Calls Tryz.prog 10 #[] w fun e w'=>e = .returned (.bool r) ∧ Below w.heap.size w w':=by
 cases Option.some.inj h
 exact awake5_c w hT
end Go.Proofs.YtakcjiinchghaaaGreatDoor
end
section
namespace Go.Proofs.YtakcjiinchghaaaGreatDoor
set_option linter.unusedVariables false
set_option linter.unusedSimpArgs false
open Go.RowKit Go.Proofs.YtakcjiinchghaaaGreatDoorW.PrintWords Go.Proofs.YtakcjiinchghaaaGreatDoorW.PrintLast PRW PRT
theorem rtakes_ev (w : Int) (d : S41) (hd : U64 d.f2.f2) : Ev (fun k=>freshetref05_takes.f k d.f0 d.f1 d.f2.f0 d.f2.f1 d.f2.f2 d.f2.f3 w) (takesE w d):=by
 have j1 : ∀ b : Bool,Ev (fun k=>freshetref05_takes.j1 k b d.f0 d.f1 d.f2.f0 d.f2.f1 d.f2.f2 d.f2.f3) (if b = true then 1 else if 10 ≤ d.f0 ∧ d.f0 ≤ 24 then 2 else -1):=fun b=>by
  refine Ev.step (f:=fun _=>some _) (fun k=>?_) (Ev.now _)
  rw [freshetref05_takes.j1]
  cases b
  ·rw [if_neg Bool.false_ne_true,if_neg Bool.false_ne_true]
   by_cases h1 : d.f0 ≥ 10
   ·by_cases h2 : d.f0 ≤ 24
    ·rw [if_pos h1,if_pos h2,if_pos ⟨h1,h2⟩]
    ·rw [if_pos h1,if_neg h2,if_neg (fun h=>h2 h.2)]
   ·rw [if_neg h1,if_neg (fun h=>h1 h.1)]
  ·rw [if_pos rfl,if_pos rfl]
 have j0 : ∀ b : Bool,Ev (fun k=>freshetref05_takes.j0 k b d.f0 d.f1 d.f2.f0 d.f2.f1 d.f2.f2 d.f2.f3) (if b = true then 0 else if (3 ≤ d.f0 ∧ d.f0 ≤ 5) ∨ (d.f0 = 6 ∧ 1 ≤ d.f1 ∧ d.f1 ≤ 4) then 1 else if 10 ≤ d.f0 ∧ d.f0 ≤ 24 then 2 else -1):=fun b=>by
  cases b
  ·have e:=j1 (decide ((3 ≤ d.f0 ∧ d.f0 ≤ 5) ∨ (d.f0 = 6 ∧ 1 ≤ d.f1 ∧ d.f1 ≤ 4)))
   simp only [decide_eq_true_eq] at e
   rw [if_neg Bool.false_ne_true]
   refine Ev.step (fun k=>?_) e
   rw [freshetref05_takes.j0,if_neg Bool.false_ne_true]
   by_cases h1 : d.f0 ≥ 3
   ·by_cases h2 : d.f0 ≤ 5
    ·rw [if_pos h1,if_pos h2,decide_eq_true (p:=(3 ≤ d.f0 ∧ d.f0 ≤ 5) ∨ (d.f0 = 6 ∧ 1 ≤ d.f1 ∧ d.f1 ≤ 4)) (.inl ⟨h1,h2⟩)]
    ·rw [if_pos h1,if_neg h2]
     by_cases h3 : d.f0 = 6
     ·by_cases h4 : d.f1 ≥ 1
      ·rw [if_pos h3,if_pos h4]
       congr 1
       exact decide_eq_decide.2 ⟨fun h=>.inr ⟨h3,h4,h⟩,fun h=>by omega⟩
      ·rw [if_pos h3,if_neg h4,decide_eq_false (p:=(3 ≤ d.f0 ∧ d.f0 ≤ 5) ∨ (d.f0 = 6 ∧ 1 ≤ d.f1 ∧ d.f1 ≤ 4)) (by omega)]
     ·rw [if_neg h3,decide_eq_false (p:=(3 ≤ d.f0 ∧ d.f0 ≤ 5) ∨ (d.f0 = 6 ∧ 1 ≤ d.f1 ∧ d.f1 ≤ 4)) (by omega)]
   ·rw [if_neg h1,if_neg (by omega),decide_eq_false (p:=(3 ≤ d.f0 ∧ d.f0 ≤ 5) ∨ (d.f0 = 6 ∧ 1 ≤ d.f1 ∧ d.f1 ≤ 4)) (by omega)]
  ·rw [if_pos rfl]
   refine Ev.step (f:=fun _=>some _) (fun k=>?_) (Ev.now _)
   rw [freshetref05_takes.j0,if_pos rfl]
 have two : Ev (fun k=>if d.f0 = 2 then (if d.f1 ≥ 0 then (freshetref05_takes.j0 k (decide (d.f1 < w)) d.f0 d.f1 d.f2.f0 d.f2.f1 d.f2.f2 d.f2.f3) else (freshetref05_takes.j0 k false d.f0 d.f1 d.f2.f0 d.f2.f1 d.f2.f2 d.f2.f3)) else (freshetref05_takes.j0 k false d.f0 d.f1 d.f2.f0 d.f2.f1 d.f2.f2 d.f2.f3))
   (if d.f0 = 2 ∧ 0 ≤ d.f1 ∧ d.f1 < w then 0 else if (3 ≤ d.f0 ∧ d.f0 ≤ 5) ∨ (d.f0 = 6 ∧ 1 ≤ d.f1 ∧ d.f1 ≤ 4) then 1 else if 10 ≤ d.f0 ∧ d.f0 ≤ 24 then 2 else -1):=by
  have e:=j0 (decide (d.f0 = 2 ∧ 0 ≤ d.f1 ∧ d.f1 < w))
  simp only [decide_eq_true_eq] at e
  refine Ev.congr (fun k=>?_) e
  by_cases h1 : d.f0 = 2
  ·by_cases h2 : d.f1 ≥ 0
   ·rw [if_pos h1,if_pos h2]
    congr 1
    exact decide_eq_decide.2 ⟨fun h=>⟨h1,h2,h⟩,fun h=>h.2.2⟩
   ·rw [if_pos h1,if_neg h2,decide_eq_false (fun h=>h2 h.2.1)]
  ·rw [if_neg h1,decide_eq_false (fun h=>h1 h.1)]
 unfold takesE
 by_cases h1 : d.f0 = 1
 ·have hx : xrSound.f d.f2.f0 d.f2.f1 d.f2.f2 d.f2.f3 = some (soundV d.f2.f0 d.f2.f1 d.f2.f2 d.f2.f3):=if_pos hd
  cases hs : soundV d.f2.f0 d.f2.f1 d.f2.f2 d.f2.f3
  ·have e1 : ((d.f0 = 1 ∧ false = true) ∨ (d.f0 = 2 ∧ 0 ≤ d.f1 ∧ d.f1 < w)) = (d.f0 = 2 ∧ 0 ≤ d.f1 ∧ d.f1 < w):=by simp
   simp only [e1]
   refine Ev.congr (fun k=>?_) two
   rw [freshetref05_takes.f,if_pos h1,hx,hs]
   simp only [Option.bind_some]
   rw [if_neg Bool.false_ne_true]
  ·rw [if_pos (.inl ⟨h1,rfl⟩)]
   have e:=j0 true
   rw [if_pos rfl] at e
   refine Ev.congr (fun k=>?_) e
   rw [freshetref05_takes.f,if_pos h1,hx,hs]
   simp only [Option.bind_some]
   rw [if_pos trivial]
 ·have e1 : ((d.f0 = 1 ∧ soundV d.f2.f0 d.f2.f1 d.f2.f2 d.f2.f3 = true) ∨ (d.f0 = 2 ∧ 0 ≤ d.f1 ∧ d.f1 < w)) = (d.f0 = 2 ∧ 0 ≤ d.f1 ∧ d.f1 < w):=by simp [h1]
  simp only [e1]
  refine Ev.congr (fun k=>?_) two
  rw [freshetref05_takes.f,if_neg h1]
theorem rsound_ev (e : List S41) (w : Int) (hd : ∀ d ∈ e,U64 d.f2.f2) : Ev (fun k=>freshetref05_Sound.f k e w) (soundE e w):=by
 have J0t : Ev (fun k=>freshetref05_Sound.j0 k e w true) false:=by
  refine Ev.step (f:=fun _=>some false) (fun k=>?_) (Ev.now _)
  rw [freshetref05_Sound.j0,if_pos rfl]
 by_cases h0 : (e.length : Int) < 1
 ·obtain rfl : e = []:=List.eq_nil_of_length_eq_zero (by omega)
  have : soundE [] w = false:=rfl
  rw [this]
  refine Ev.congr (fun k=>?_) J0t
  rw [freshetref05_Sound.f,if_pos h0]
 by_cases hl : (e.length : Int) > 4000
 ·have : soundE e w = false:=by unfold soundE;rw [decide_eq_false (show ¬ e.length ≤ 4000 by omega),Bool.false_and]
  rw [this]
  refine Ev.congr (fun k=>?_) J0t
  rw [freshetref05_Sound.f,if_neg h0,decide_eq_true hl]
 have hs : soundE e w = decide (mh (takesE w) e 0 = some 1):=by unfold soundE;rw [decide_eq_true (show e.length ≤ 4000 by omega),Bool.true_and]
 rw [hs]
 have main : ∀ n i : Nat,i + n = e.length → ∀ h : Int,0 ≤ h → h ≤ (i : Int) → Ev (fun k=>freshetref05_Sound.l0 k e w h (i : Int)) (decide (mh (takesE w) (e.drop i) h = some 1)):=by
  intro n
  induction n with
  | zero =>
   intro i hi h h0 h1
   rw [List.drop_of_length_le (by omega),mh]
   refine Ev.step (f:=fun _=>some _) (fun k=>?_) (Ev.now _)
   rw [freshetref05_Sound.l0,if_neg (by omega)]
   congr 1
   rw [Bool.eq_iff_iff];simp
  | succ n ih =>
   intro i hi h h0 h1
   have hlt : i < e.length:=by omega
   have hrd : rd_T41 e (i : Int) = e[i]:=by unfold rd_T41;simp [hlt]
   have htk:=rtakes_ev w e[i] (hd _ (List.getElem_mem hlt))
   have ok:=takes_ok w e[i]
   rw [List.drop_eq_getElem_cons hlt,mh]
   refine Ev.step (f:=fun k=>((freshetref05_takes.f k e[i].f0 e[i].f1 e[i].f2.f0 e[i].f2.f1 e[i].f2.f2 e[i].f2.f3 w).bind fun t104=>(if t104 < 0 then (some false) else (if h < t104 then (some false) else (freshetref05_Sound.l0 k e w (wrap64 ((wrap64 (h - t104)) + 1)) (wrap64 ((i : Int) + 1))))))) (fun k=>?_) (Ev.bind htk ?_)
   ·rw [freshetref05_Sound.l0,if_pos (by omega),if_pos (by omega),hrd]
   generalize takesE w e[i] = q at *
   by_cases c1 : q < 0
   ·rw [if_pos (.inl c1),show decide ((none : Option Int) = some 1) = false from rfl]
    exact Ev.congr (fun k=>if_pos c1) (Ev.now _)
   by_cases c2 : h < q
   ·rw [if_pos (.inr c2),show decide ((none : Option Int) = some 1) = false from rfl]
    exact Ev.congr (fun k=>by rw [if_neg c1,if_pos c2]) (Ev.now _)
   rw [if_neg (by omega)]
   have hq : q ≤ 2:=by omega
   have e1 : wrap64 (wrap64 (h - q) + 1) = h + 1 - q:=by unfold wrap64;omega
   have e2 : wrap64 ((i : Int) + 1) = ((i + 1 : Nat) : Int):=by unfold wrap64;omega
   refine Ev.congr (fun k=>?_) (ih (i + 1) (by omega) (h + 1 - q) (by omega) (by omega))
   rw [if_neg c1,if_neg c2,e1,e2]
 have h:=main e.length 0 (by omega) 0 (by omega) (by omega)
 rw [List.drop_zero] at h
 refine Ev.congr (f:=fun k=>freshetref05_Sound.j0 k e w false) (fun k=>?_) (Ev.step (fun k=>?_) h)
 ·rw [freshetref05_Sound.f,if_neg h0,decide_eq_false hl]
 ·rw [freshetref05_Sound.j0,if_neg Bool.false_ne_true];rfl
end Go.Proofs.YtakcjiinchghaaaGreatDoor
end
