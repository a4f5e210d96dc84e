/- The row and the card of a law; a part of the claim: what the card leans on, out of the texts EJ1, EN10 (put together by wip/tools/shake.py). -/
import Derived.Test.YtakcjiinchghaaaGreatDoorQE6
import Derived.Test.YtakcjiinchghaaaGreatDoorQE15
import Derived.Test.YtakcjiinchghaaaGreatDoorCards
import Derived.Test.YtakcjiinchghaaaGreatDoorTie
import Derived.WalkKit
import Derived.ProofKit
import Derived.OpenShut
import Derived.SizedLaws
import Derived.Lib.SmallJoins
import Derived.Deep.DeepHandedRow
import Derived.Deep.DeepWitnessRef
import Derived.Deep.Strs
import Derived.Deep.Slices
import Derived.ChangeOld
import Derived.Carry
import Derived.Lib.LaidTab
import Derived.LaidSub
import Derived.Lay
import Derived.ShutString
section
namespace Go.Proofs.YtakcjiinchghaaaGreatDoor
set_option linter.unusedVariables false
set_option linter.unusedSimpArgs false
open Go.ChangeShapes Go.WideShapes Go.ChangeAt Go.RowKit Go.Joins Go.Deep Go.Proofs.YtakcjiinchghaaaGreatDoorW.PrintWords PRW
theorem laidOut : laidOutB Tryz.prog = true:=by kernel_rfl
theorem ownKn : ownKnob Tryz.prog.godebug = none:=by kernel_rfl
theorem gPow : Tryz.prog.globalNamed "internal/strconv.uint64pow10" = some 1 := by kernel_rfl
theorem tab_of_laid {l : List (String × DataW Unit)} {W : World} (hl : l.filter (fun x => x.1 == "internal/strconv.uint64pow10") = [("internal/strconv.uint64pow10", Lib.tabData .u64 Lib.pow10Tab)]) (hd : l.filter (fun x => x.1 == "math/bits.deBruijn64tab") = [("math/bits.deBruijn64tab", Lib.tabData .u8 dB64)])
  (h : laidMetH Tryz.prog l W) (hs : W.ShapedOpen Tryz.prog) : ETab W:=by
 have h2 := laidMetH.filter (fun x => x.1 == "internal/strconv.uint64pow10") h
 rw [hl] at h2
 have h3 := laidMetH.filter (fun x => x.1 == "math/bits.deBruijn64tab") h
 rw [hd] at h3
 exact ⟨Lib.tabIs_of_head (rest:=[]) (t:=200) (e:=27) (n:=20) gPow (by kernel_rfl) (by kernel_rfl) (by kernel_rfl) (by kernel_rfl) (by kernel_rfl) h2,
  Lib.tabIs_of_head (rest:=[]) (t:=205) (e:=5) (n:=64) gDB (by kernel_rfl) (by kernel_rfl) (by kernel_rfl) (by kernel_rfl) (by kernel_rfl) h3⟩
section
variable {H : Type} {enc : TypeId × Value → H}
theorem witness_zip {C : Checked} {os : Os} {f : FuncId} {fn : Func} {s : OpenSpec} {conds : List PathCond} {apart : Bool} {laid : List (String × DataW Unit)} (w0 : World) (args : Array Value) (hos : w0.os = os)
  (hv : (w0.forCall (fun _ _=>0) ⟨#[],args,[]⟩).variablesZipB C.prog = true)
  (hr : ((w0.forCall (fun _ _=>0) ⟨#[],args,[]⟩).heap.toList.drop C.prog.globals.size).take ((begin C.prog (fun _ _=>0) default).world.heap.size - C.prog.globals.size) =
   (begin C.prog (fun _ _=>0) default).world.heap.toList.drop C.prog.globals.size)
  (hok : Input.okWideB C.prog (w0.forCall (fun _ _=>0) ⟨#[],args,[]⟩) f ⟨#[],args,[]⟩ = true)
  (hrow : s.preRow enc C.prog fn conds apart laid (w0.forCall (fun _ _=>0) ⟨#[],args,[]⟩).memory args) :
  ∃ (w : World) (tape : Tape) (i : Input),w.os = os ∧ (w.forCall tape i).Shaped C.prog ∧ i.vars = [] ∧ Input.okWide C.prog (w.forCall tape i) .any w.heap.size f i ∧
   s.preRow enc C.prog fn conds apart laid (w.forCall tape i).memory i.args ∧ ({ modest:=false } : Assume).holds C.prog (lone (Frame.enter C.prog f i.args .normal) [] (w.forCall tape i)) :=
 ⟨w0,fun _ _=>0,⟨#[],args,[]⟩,hos,World.shaped_of_ZipB hv hr,(Input.okWide_of_okWideB (base:=0) hok).1,(Input.okWide_of_okWideB hok).2,hrow,by simp [Assume.holds]⟩
theorem i64_of_wf {n : Int} (h : (Lit.int .i64 n).wf = true) : I64 n:=by
 simp only [Lit.wf,Bool.and_eq_true,decide_eq_true_eq] at h;exact h
theorem u64_of_wf {n : Int} (h : (Lit.int .u64 n).wf = true) : U64 n:=by
 simp only [Lit.wf,Bool.and_eq_true,decide_eq_true_eq] at h
 obtain ⟨h1,h2⟩:=h
 have e1 : IntKind.u64.min = 0:=rfl
 have e2 : IntKind.u64.max = 18446744073709551615:=rfl
 rw [e1] at h1;rw [e2] at h2
 exact ⟨h1,by omega⟩
theorem len4 {α : Type} {l : List α} (h : l.length = 4) : ∃ a b c d,l = [a,b,c,d]:=by
 match l,h with
 | [a,b,c,d],_=>exact ⟨a,b,c,d,rfl⟩
theorem open_velem {W : World} {sp : Nat → Bool} {n : Nat} {cs : List Value} {x : DataW H × List MemPlace} (h : DataW.trod enc Tryz.prog W 0 sp true n 29 cs = some x) :
  ∃ t : S29,k29.K W t cs ∧ rngV t = true:=by
 obtain ⟨y0,y1,y2,y3,m,rfl,hl,h0,h1,h2,h3⟩:=trod_struct4 Tryz.underlying29 h
 obtain ⟨k,e0,rfl,w0⟩:=DataW.trod_int Tryz.underlying3 h0
 obtain ⟨n,e1,rfl,w1⟩:=DataW.trod_int Tryz.underlying3 h1
 obtain ⟨f,e2,rfl,w2⟩:=DataW.trod_int Tryz.underlying27 h2
 obtain ⟨t,e3,rfl,w3⟩:=DataW.trod_string Tryz.underlying9 h3
 have hc4 : Tryz.prog.cellsOf 29 = 4:=by kernel_rfl
 have hc1 : Tryz.prog.cellsOf 3 = 1:=by kernel_rfl
 have hc2 : Tryz.prog.cellsOf 9 = 1:=by kernel_rfl
 have hc3 : Tryz.prog.cellsOf 27 = 1:=by kernel_rfl
 rw [hc4] at hl
 obtain ⟨u0,u1,u2,u3,hu⟩:=len4 hl
 rw [hu,hc1] at e0 e1
 rw [hu,hc3] at e2
 rw [hu,hc2] at e3
 obtain rfl : u0 = .int .i64 k:=(List.cons.inj e0).1
 obtain rfl : u1 = .int .i64 n:=(List.cons.inj e1).1
 obtain rfl : u2 = .int .u64 f:=(List.cons.inj e2).1
 obtain rfl : u3 = .string t:=(List.cons.inj e3).1
 rw [hu]
 exact ⟨⟨k,n,f,t⟩,k29_mk W ⟨k,n,f,t⟩,(rngV_iff _).2 ⟨i64_of_wf w1,u64_of_wf w2⟩⟩
theorem choose_lt {α : Type} [Inhabited α] {n : Nat} {P : Nat → α → Prop} (h : ∀ i,i < n → ∃ x,P i x) : ∃ F : Nat → α,∀ i,i < n → P i (F i):=by
 classical
 refine ⟨fun i=>if hi : i < n then Classical.choose (h i hi) else default,fun i hi=>?_⟩
 simp only [hi,dif_pos]
 exact Classical.choose_spec (h i hi)
theorem nilC {α : Type} (d : Kd α) (W : World) : Kd.C d W none ([] : List α).length []:=by
 refine ⟨rfl, ?_,fun h=>?_⟩
 ·rw [List.length_nil];omega
 ·rw [List.length_nil] at h;omega
theorem weightsAll_mem {P : Program} {e : TypeId} : ∀ {ds : List (DataW H)} {d : DataW H},d ∈ ds → ∀ n ∈ d.weights P e,n ∈ DataW.weightsAll P e ds
 | d0 :: ds,d,hd,n,hn=>by
  simp only [DataW.weightsAll,List.mem_append]
  rcases List.mem_cons.1 hd with rfl | hd
  ·exact Or.inl hn
  ·exact Or.inr (weightsAll_mem hd n hn)
set_option maxRecDepth 100000 in
/-- a slice in memory, opened: its elements by their own opening -/
theorem open_sl_c {α : Type} [Inhabited α] (k : Kd α) {t e : TypeId} (hu : Tryz.prog.underlying t = some (.slice e)) (hs : Tryz.prog.cellsOf e = k.sz) {P : DataW H → α → Prop} {W : World}
  (el : ∀ (n : Nat) (cs : List Value) (x : DataW H × List MemPlace),DataW.trod enc Tryz.prog W 0 (fun _=>true) true n e cs = some x → ∃ y,k.K W y cs ∧ P x.1 y)
  {fuel : Nat} {cs0 : List Value} {x0 : DataW H × List MemPlace} (hf : DataW.trod enc Tryz.prog W 0 (fun _=>true) true fuel t cs0 = some x0) :
  ∃ (A : Option Addr) (c : Nat) (L : List α),cs0 = [Value.slice A L.length c] ∧ L.length ≤ c ∧ Kd.C k W A L.length L ∧
   (∀ y ∈ L,∃ dd,P dd y ∧ ∀ n ∈ dd.weights Tryz.prog e,n ∈ x0.1.weights Tryz.prog t) ∧ ((∀ n ∈ x0.1.weights Tryz.prog t,n ≤ reachBytes) → Tryz.prog.bytesOf e * L.length ≤ reachBytes):=by
 rcases open_slice hu hf with ⟨hcs,hx⟩ | ⟨ad,len,cap,m,n,D,Pl,hcs,_,hl,hm,hmm,hx,he⟩
 ·subst hcs
  exact ⟨none,0,[],rfl,Nat.le_refl _,nilC k W,fun y hy=>absurd hy List.not_mem_nil,fun _=>by rw [List.length_nil,Nat.mul_zero];exact Nat.zero_le _⟩
 ·subst hcs
  have hml : len ≤ m:=by rw [hmm];split <;> omega
  have hw : ∀ i,i < len → ∀ q ∈ (D i).weights Tryz.prog e,q ∈ x0.1.weights Tryz.prog t:=fun i hi q hq=>by
   rw [hx]
   unfold DataW.weights
   rw [hu]
   exact List.mem_cons_of_mem _ (List.mem_append_left _ (weightsAll_mem (List.mem_map_of_mem (List.mem_range.2 hi)) q hq))
  have key : ∀ i,i < len → ∃ y : α,(∃ dd,P dd y ∧ ∀ n ∈ dd.weights Tryz.prog e,n ∈ x0.1.weights Tryz.prog t) ∧ ∃ cs,cs.length = k.sz ∧ k.K W y cs ∧ ∀ j u,cs[j]? = some u → W.cell? (ad.add (i * k.sz + j)) = some u:=by
   intro i hi
   obtain ⟨cs,h1,h2⟩:=he i (by omega)
   obtain ⟨y,hk,hy⟩:=el _ _ _ h2
   rw [hs] at h1
   obtain ⟨_,hlen,hcell⟩:=World.cells?_some h1
   refine ⟨y,⟨_,hy,hw i hi⟩,cs,hlen,hk,fun j u hu=>?_⟩
   have hj : j < k.sz:=by rw [← hlen];exact (List.getElem?_eq_some_iff.1 hu).1
   have:=hcell j hj
   rw [Deep.add_add,hu] at this
   exact this
  obtain ⟨F,hF⟩:=choose_lt (α:=α) key
  have hLl : ((List.range len).map F).length = len:=by simp
  refine ⟨some ad,cap,(List.range len).map F,by rw [hLl],by rw [hLl];exact hl, ?_, ?_, ?_⟩
  ·refine ⟨rfl,by rw [hLl];unfold maxLen at hm;omega,fun _=>⟨ad,rfl,fun j p hj=>?_⟩⟩
   have hjl : j < len:=by rw [← hLl];exact (List.getElem?_eq_some_iff.1 hj).1
   have : p = F j:=by simpa [hjl] using hj.symm
   subst this
   obtain ⟨_,cs,h1,h2,h3⟩:=hF j hjl
   exact ⟨cs,h1,h2,h3⟩
  ·intro y hy
   obtain ⟨i,hi,rfl⟩:=List.mem_map.1 hy
   exact (hF i (List.mem_range.1 hi)).1
  ·intro h
   rw [hLl]
   have h1:=h _ (by
    rw [hx]
    unfold DataW.weights
    rw [hu]
    exact List.mem_cons_self ..)
   rw [List.length_map,List.length_range] at h1
   rw [Nat.mul_comm]
   exact Nat.le_trans (Nat.mul_le_mul_right _ (Nat.le_add_right _ _)) h1
set_option maxRecDepth 100000 in
/-- the same of an argument -/
theorem open_sl {α : Type} [Inhabited α] (k : Kd α) {t e : TypeId} (hu : Tryz.prog.underlying t = some (.slice e)) (hs : Tryz.prog.cellsOf e = k.sz) {P : DataW H → α → Prop} {W : World}
  (el : ∀ (n : Nat) (cs : List Value) (x : DataW H × List MemPlace),DataW.trod enc Tryz.prog W 0 (fun _=>true) true n e cs = some x → ∃ y,k.K W y cs ∧ P x.1 y)
  {base : Nat} {v : Value} {d : DataW H} {p : List MemPlace} (hv : Value.okWide Tryz.prog W .any base t v) (h : DataW.Trod enc Tryz.prog W 0 (fun _=>true) true t v d p) :
  ∃ (A : Option Addr) (c : Nat) (L : List α),v = Value.slice A L.length c ∧ L.length ≤ c ∧ Kd.C k W A L.length L ∧
   (∀ y ∈ L,∃ dd,P dd y ∧ ∀ n ∈ dd.weights Tryz.prog e,n ∈ d.weights Tryz.prog t) ∧ ((∀ n ∈ d.weights Tryz.prog t,n ≤ reachBytes) → Tryz.prog.bytesOf e * L.length ≤ reachBytes):=by
 obtain ⟨A,len,cap,rfl⟩:=okWide_slice hu hv
 obtain ⟨fuel,hf⟩:=h
 obtain ⟨A',c,L,h1,h2⟩:=open_sl_c k hu hs el hf
 simp [Value.cells] at h1
 obtain ⟨rfl,rfl,rfl⟩:=h1
 exact ⟨_,_,L,rfl,h2⟩
set_option maxRecDepth 100000 in
theorem open_row {W : World} {base : Nat} {v : Value} {d : DataW H} {p : List MemPlace} (hv : Value.okWide Tryz.prog W .any base 25 v)
  (h : DataW.Trod enc Tryz.prog W 0 (fun _=>true) true 25 v d p) :
  ∃ (A : Option Addr) (c : Nat) (L : List S29),v = Value.slice A L.length c ∧ L.length ≤ c ∧ Kd.C k29 W A L.length L ∧ rngL L = true:=by
 haveI : Inhabited S29:=⟨z29⟩
 obtain ⟨A,c,L,h1,h2,h3,h4,_⟩:=open_sl k29 Tryz.underlying25 (by kernel_rfl) (P:=fun _ y=>rngV y = true) (fun _ _ _ hx=>open_velem hx) hv h
 exact ⟨A,c,L,h1,h2,h3,List.all_eq_true.2 fun y hy=>(h4 y hy).elim fun _ q=>q.1⟩
set_option maxRecDepth 100000 in
theorem open_delem {W : World} {n : Nat} {cs : List Value} {x : DataW H × List MemPlace} (h : DataW.trod enc Tryz.prog W 0 (fun _=>true) true n 41 cs = some x) :
  ∃ y : S41,k41.K W y cs ∧ rngD [y] = true:=by
 obtain ⟨y0,y1,y2,m,hx,hl,h0,h1,h2⟩:=trod_struct3 Tryz.underlying41 h
 obtain ⟨k,e0,_,w0⟩:=DataW.trod_int Tryz.underlying3 h0
 obtain ⟨n,e1,_,w1⟩:=DataW.trod_int Tryz.underlying3 h1
 obtain ⟨v,hv,hr⟩:=open_velem h2
 have hc6 : Tryz.prog.cellsOf 41 = 6:=by kernel_rfl
 have hc4 : Tryz.prog.cellsOf 29 = 4:=by kernel_rfl
 have hc1 : Tryz.prog.cellsOf 3 = 1:=by kernel_rfl
 rw [hc6] at hl
 match cs,hl with
 | [u0,u1,u2,u3,u4,u5],_ =>
  simp only [hc1] at e0 e1
  simp only [hc4] at hv
  obtain rfl : u0 = .int .i64 k:=(List.cons.inj e0).1
  obtain rfl : u1 = .int .i64 n:=(List.cons.inj e1).1
  obtain ⟨v0,v1,v2,v3⟩:=v
  have hv' : k29.K W ⟨v0,v1,v2,v3⟩ [u2,u3,u4,u5]:=hv
  have hh:=k29_open hv'
  simp only [List.cons.injEq,and_true] at hh
  obtain ⟨rfl,rfl,rfl,rfl⟩:=hh
  refine ⟨⟨k,n,⟨v0,v1,v2,v3⟩⟩,k41_mk W ⟨k,n,⟨v0,v1,v2,v3⟩⟩, ?_⟩
  have w1':=i64_of_wf w1
  unfold rngD
  rw [List.all_cons,hr,decide_eq_true w1'.1,decide_eq_true w1'.2];rfl
set_option maxRecDepth 100000 in
theorem open_expr {W : World} {base : Nat} {v : Value} {d : DataW H} {p : List MemPlace} (hv : Value.okWide Tryz.prog W .any base 23 v)
  (h : DataW.Trod enc Tryz.prog W 0 (fun _=>true) true 23 v d p) :
  ∃ (A : Option Addr) (c : Nat) (L : List S41),v = Value.slice A L.length c ∧ L.length ≤ c ∧ Kd.C k41 W A L.length L ∧ rngD L = true ∧ ((∀ k ∈ d.weights Tryz.prog 23,k ≤ reachBytes) → L.length ≤ 2513169434843):=by
 haveI : Inhabited S41:=⟨z41⟩
 obtain ⟨A,c,L,h1,h2,h3,h4,h5⟩:=open_sl k41 Tryz.underlying23 (by kernel_rfl) (P:=fun _ y=>rngD [y] = true) (fun _ _ _ hx=>open_delem hx) hv h
 refine ⟨A,c,L,h1,h2,h3, ?_,fun h=>?_⟩
 ·unfold rngD
  refine List.all_eq_true.2 fun y hy=>?_
  obtain ⟨_,q,_⟩:=h4 y hy
  unfold rngD at q
  simpa using q
 ·have:=h5 h
  have hb : Tryz.prog.bytesOf 41 = 56:=by kernel_rfl
  have e : reachBytes = 140737488351232:=rfl
  rw [hb,e] at this
  omega
end
end Go.Proofs.YtakcjiinchghaaaGreatDoor
end
section
namespace Go.Proofs.YtakcjiinchghaaaGreatDoor.exprEvals
set_option linter.unusedVariables false
set_option linter.unusedSimpArgs false
open Go.ChangeShapes Go.WideShapes Go.ChangeAt Go.RowKit Go.Joins Go.Deep
open Go.ChangeMaps (open_string shut_string)
set_option linter.unusedVariables false
set_option maxRecDepth 100000 in
theorem contract (H : Type) (enc : TypeId × Value → H) (W : World) (base : Nat) (args : Array Value) (ds gs : List (DataW H)) (before : List MemPlace)
  (hval : ∀ (j : Nat) t v,Tryz.f3.params[j]? = some t → args[j]? = some v → Value.okWide Tryz.prog W .any base t v)
  (hW : DataW.Whole enc Tryz.prog Tryz.f3.params.toList Rows.exprEvalsSpec.vars false W args.toList ds gs before) (hL : laidMetH Tryz.prog Rows.exprEvalsRow.laid W) (hSh : W.ShapedOpen Tryz.prog)
  (hZ : (DataW.weightsEach Tryz.prog (Tryz.f3.params.toList ++ (OpenSpec.ofChange Rows.exprEvalsSpec).bare.plain.varTypes Tryz.prog) (ds ++ gs)).all (· ≤ reachBytes) = true) :
  Calls Tryz.prog 3 args W fun e W'=>∃ v,e = .returned v ∧ Rows.exprEvalsSpec.post enc Tryz.prog Tryz.f3 false true false false W args v W':=by
 have hT : ETab W:=tab_of_laid (by rfl) (by rfl) hL hSh
 have hW':=hW
 obtain ⟨p,q,hA0,hV,rfl,hfz,hnd⟩:=hW
 have hA : DataW.TrodAll enc Tryz.prog W 0 (fun _=>true) true Tryz.f3.params.toList args.toList ds p:=hA0
 rw [Tryz.params3] at hA hval hZ
 obtain ⟨v0,vs0,d0,ds0,p0,q0,hargs,rfl,rfl,h0,r0⟩:=trodAll_cons hA
 obtain ⟨v1,vs1,d1,ds1,p1,q1,rfl,rfl,rfl,h1,r1⟩:=trodAll_cons r0
 obtain ⟨v2,vs2,d2,ds2,p2,q2,rfl,rfl,rfl,h2,r2⟩:=trodAll_cons r1
 obtain ⟨rfl,rfl,rfl⟩:=trodAll_nil r2
 obtain rfl : args = #[v0,v1,v2]:=by cases args;simp_all
 obtain ⟨rfl,rfl⟩:=trodVars_none hV
 have k0:=h0
 have lt0 : ∀ x ∈ p0,x.block < W.heap.size:=by obtain ⟨m,hm⟩:=k0;exact DataW.trod_lt m _ _ _ hm
 have k1:=h1
 have lt1 : ∀ x ∈ p1,x.block < W.heap.size:=by obtain ⟨m,hm⟩:=k1;exact DataW.trod_lt m _ _ _ hm
 have k2:=h2
 have lt2 : ∀ x ∈ p2,x.block < W.heap.size:=by obtain ⟨m,hm⟩:=k2;exact DataW.trod_lt m _ _ _ hm
 obtain ⟨A0,c0,L0,rfl,hc0,hr0,hg0,hw0⟩:=open_expr (hval 0 23 v0 rfl rfl) h0
 have hw0:=hw0 fun k hk=>by simpa using List.all_eq_true.1 hZ _ (DataW.weights_mem_each (j:=0) rfl rfl k hk)
 obtain ⟨A1,c1,L1,rfl,hc1,hr1,hg1⟩:=open_row (hval 1 25 v1 rfl rfl) h1
 obtain ⟨a2,rfl,rfl,ep2,w2⟩:=open_int Tryz.underlying3 (hval 2 3 v2 rfl rfl) h2
 clear hA0
 simp only [List.append_nil] at hW'
 refine (walkExprEvals W A0 c0 L0 hc0 hr0 hg0 hw0 A1 c1 L1 hc1 hr1 hg1 a2 (i64_of_wf w2) hT).mono fun e W' ⟨he,bel⟩=>?_
 subst he
 exact ⟨_,rfl,_,_,_,[],_,[],hW',trodAll_mk1 (shut_bool Tryz.underlying4 _),(trodAll_cons_mk (Below.trod laidOut (by kernel_rfl) (of_decide_eq_true (by kernel_rfl)) k0 bel lt0) (trodAll_cons_mk (Below.trod laidOut (by kernel_rfl) (of_decide_eq_true (by kernel_rfl)) k1 bel lt1) (trodAll_cons_mk (Below.trod laidOut (by kernel_rfl) (of_decide_eq_true (by kernel_rfl)) k2 bel lt2) trodAll_mk0))),rfl,bel.frame _,fun h=>by cases h⟩
theorem laid_met (os : Os) : laidMet Tryz.prog Rows.exprEvalsRow.laid ((World.laidAll Tryz.prog os Rows.exprEvalsRow.laid).forCall (fun _ _=>0) ⟨#[],#[.slice none 0 0,.slice none 0 0,.int .i64 0],[]⟩).memory :=
 laidMet_laidAll _ (by kernel_rfl) (by kernel_rfl)
theorem reads (os : Os) {H : Type} (enc : TypeId × Value → H) : ∃ places,DataW.whole enc Tryz.prog ((World.laidAll Tryz.prog os Rows.exprEvalsRow.laid).forCall (fun _ _=>0) ⟨#[],#[.slice none 0 0,.slice none 0 0,.int .i64 0],[]⟩).memory Tryz.f3.params.toList Rows.exprEvalsSpec.vars false #[(.slice none 0 0 : Value),.slice none 0 0,.int .i64 0].toList 8 = some ([.nil,.nil,.lit (.int .i64 0)],[],places) :=
 ⟨[],by kernel_rfl⟩
set_option maxRecDepth 100000 in
theorem lifted (os : Os) (started : os.Started) (H : Type) (enc : TypeId × Value → H) (F : Stop.Interp) :
  ReturnsInHanded {} Tryz.checked os 3 .any ((OpenSpec.ofChange Rows.exprEvalsSpec).preRow enc Tryz.prog Tryz.f3 Rows.exprEvalsRow.domain false Rows.exprEvalsRow.laid) (((OpenSpec.ofChange Rows.exprEvalsSpec).at F).post enc Tryz.prog Tryz.f3 false true false false):=by
 obtain ⟨places,hx⟩:=reads os enc
 refine returnsInHanded_of_row (C:=Tryz.checked) (s:=(OpenSpec.ofChange Rows.exprEvalsSpec)) ownKn started (by kernel_rfl) Tryz.func3
  (witness_zip (enc:=enc) (C:=Tryz.checked) (World.laidAll Tryz.prog os Rows.exprEvalsRow.laid) #[.slice none 0 0,.slice none 0 0,.int .i64 0] (World.laidAll_os _ _ _) (by kernel_rfl) (by kernel_rfl) (by kernel_rfl)
   (OpenSpec.preRow_of_cond 8 hx (by kernel_rfl) (fun k hk=>by cases hk) (by kernel_rfl) (laid_met os))) ?_
 intro W base args ds gs before hval hW _ _ hZ hL hSh _
 exact contract H enc W base args ds gs before hval hW hL hSh hZ
theorem said : Rows.ExprEvalsSaid :=
 OpenClaim.holds_of_cond 3 Tryz.f3 rfl rfl rfl rfl rfl rfl rfl ⟨rfl,rfl,rfl,rfl,rfl⟩ rfl rfl rfl rfl rfl (by kernel_rfl) Tryz.func3 (by kernel_rfl)
  (of_decide_eq_true (by kernel_rfl)) (by unfold Func.isWrapper;first | (rw [if_pos (by decide +kernel)];kernel_rfl) | (rw [if_neg (by decide +kernel)];exact ⟨rfl,rfl⟩))
  (fun os started H enc _ F=>by rw [OpenClaim.pre_eq_preRow];exact lifted os started H enc F)
theorem plain (f : FuncId) (fn : Func) (hf : Tryz.pinned.checked.prog.funcNamed "freshet/freshetlaw05.ExprEvals" = some f) (hfn : Tryz.pinned.checked.prog.funcs[f]? = some fn) :
  true = Tryz.pinned.checked.prog.looks [] ∧ ∀ (j : Nat) t,fn.params[j]? = some t → Tryz.pinned.checked.prog.wantsStandIn t = false:=by
 obtain rfl : f = 3 := Option.some.inj ((show Tryz.prog.funcNamed "freshet/freshetlaw05.ExprEvals" = some 3 by kernel_rfl).symm.trans hf) |>.symm
 obtain rfl : fn = Tryz.f3:=(Option.some.inj (Tryz.func3.symm.trans hfn)).symm
 refine ⟨by kernel_rfl,fun j t ht=>?_⟩
 rw [Tryz.params3] at ht
 have hm:=Array.mem_of_getElem? ht
 have all : ∀ t ∈ (#[23,25,3] : Array Nat),Tryz.prog.wantsStandIn t = false:=by decide +kernel
 exact all t hm
/-- ████ THE CARD ████ -/
theorem card : Rows.ExprEvalsCardSaid :=
 Claim7.holds_tied_plain_at .later [] _ _ _ _ said (fun _ h=>by cases h) (by kernel_rfl) (fun _ h=>by cases h) exprEvals_row_tie rfl ⟨rfl,rfl⟩ (by kernel_rfl) rfl plain (by kernel_rfl)
#print axioms card
end Go.Proofs.YtakcjiinchghaaaGreatDoor.exprEvals
end
