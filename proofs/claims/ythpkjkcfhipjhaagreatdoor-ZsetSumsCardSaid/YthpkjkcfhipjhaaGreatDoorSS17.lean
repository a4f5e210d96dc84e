/- The row and the card of a law; a part of the claim: what the card leans on, out of the texts RJ1, ZJ1, ZC5 (put together by wip/tools/shake.py). -/
import Derived.Test.YthpkjkcfhipjhaaGreatDoorSS5
import Derived.Test.YthpkjkcfhipjhaaGreatDoorSS11
import Derived.Test.YthpkjkcfhipjhaaGreatDoorSS16
import Derived.Test.YthpkjkcfhipjhaaGreatDoorCards
import Derived.Test.YthpkjkcfhipjhaaGreatDoorTie
import Derived.WalkKit
import Derived.ProofKit
import Derived.OpenShut
import Derived.SizedLaws
import Derived.Lib.SmallJoins
import Derived.Deep.DeepHandedRow
import Derived.Deep.DeepWitnessRef
import Derived.Deep.Strs
import Derived.Deep.Slices
import Derived.ChangeOld
import Derived.Carry
import Derived.Lib.LaidTab
import Derived.LaidSub
import Derived.Lay
import Derived.ShutString
section
namespace Go.Proofs.YthpkjkcfhipjhaaGreatDoor
set_option linter.unusedVariables false
set_option linter.unusedSimpArgs false
open Go.ChangeShapes Go.WideShapes Go.ChangeAt Go.RowKit Go.Joins Go.Deep Go.Proofs.YthpkjkcfhipjhaaGreatDoorW.PrintWords PRW
theorem laidOut : laidOutB Tryz.prog = true:=by kernel_rfl
theorem ownKn : ownKnob Tryz.prog.godebug = none:=by kernel_rfl
theorem gPow : Tryz.prog.globalNamed "internal/strconv.uint64pow10" = some 2 := by kernel_rfl
theorem tab_of_laid {l : List (String × DataW Unit)} {W : World} (hl : l.filter (fun x => x.1 == "internal/strconv.uint64pow10") = [("internal/strconv.uint64pow10", Lib.tabData .u64 Lib.pow10Tab)]) (hd : l.filter (fun x => x.1 == "math/bits.deBruijn64tab") = [("math/bits.deBruijn64tab", Lib.tabData .u8 dB64)])
  (h : laidMetH Tryz.prog l W) (hs : W.ShapedOpen Tryz.prog) : RTab W:=by
 have h2 := laidMetH.filter (fun x => x.1 == "internal/strconv.uint64pow10") h
 rw [hl] at h2
 have h3 := laidMetH.filter (fun x => x.1 == "math/bits.deBruijn64tab") h
 rw [hd] at h3
 exact ⟨Lib.tabIs_of_head (rest:=[]) (t:=154) (e:=56) (n:=20) gPow (by kernel_rfl) (by kernel_rfl) (by kernel_rfl) (by kernel_rfl) (by kernel_rfl) h2,
  Lib.tabIs_of_head (rest:=[]) (t:=164) (e:=5) (n:=64) gDB (by kernel_rfl) (by kernel_rfl) (by kernel_rfl) (by kernel_rfl) (by kernel_rfl) h3,Tryz.laysM143.s1_3 W hs⟩
section
variable {H : Type} {enc : TypeId × Value → H}
theorem witness_zip {C : Checked} {os : Os} {f : FuncId} {fn : Func} {s : OpenSpec} {conds : List PathCond} {apart : Bool} {laid : List (String × DataW Unit)} (w0 : World) (args : Array Value) (hos : w0.os = os)
  (hv : (w0.forCall (fun _ _=>0) ⟨#[],args,[]⟩).variablesZipB C.prog = true)
  (hr : ((w0.forCall (fun _ _=>0) ⟨#[],args,[]⟩).heap.toList.drop C.prog.globals.size).take ((begin C.prog (fun _ _=>0) default).world.heap.size - C.prog.globals.size) =
   (begin C.prog (fun _ _=>0) default).world.heap.toList.drop C.prog.globals.size)
  (hok : Input.okWideB C.prog (w0.forCall (fun _ _=>0) ⟨#[],args,[]⟩) f ⟨#[],args,[]⟩ = true)
  (hrow : s.preRow enc C.prog fn conds apart laid (w0.forCall (fun _ _=>0) ⟨#[],args,[]⟩).memory args) :
  ∃ (w : World) (tape : Tape) (i : Input),w.os = os ∧ (w.forCall tape i).Shaped C.prog ∧ i.vars = [] ∧ Input.okWide C.prog (w.forCall tape i) .any w.heap.size f i ∧
   s.preRow enc C.prog fn conds apart laid (w.forCall tape i).memory i.args ∧ ({ modest:=false } : Assume).holds C.prog (lone (Frame.enter C.prog f i.args .normal) [] (w.forCall tape i)) :=
 ⟨w0,fun _ _=>0,⟨#[],args,[]⟩,hos,World.shaped_of_ZipB hv hr,(Input.okWide_of_okWideB (base:=0) hok).1,(Input.okWide_of_okWideB hok).2,hrow,by simp [Assume.holds]⟩
theorem i64_of_wf {n : Int} (h : (Lit.int .i64 n).wf = true) : I64 n:=by
 simp only [Lit.wf,Bool.and_eq_true,decide_eq_true_eq] at h;exact h
theorem u64_of_wf {n : Int} (h : (Lit.int .u64 n).wf = true) : U64 n:=by
 simp only [Lit.wf,Bool.and_eq_true,decide_eq_true_eq] at h
 obtain ⟨h1,h2⟩:=h
 have e1 : IntKind.u64.min = 0:=rfl
 have e2 : IntKind.u64.max = 18446744073709551615:=rfl
 rw [e1] at h1;rw [e2] at h2
 exact ⟨h1,by omega⟩
theorem rowNil (W : World) : Kd.C k64 W none ([] : List S64).length []:=by
 refine ⟨rfl, ?_,fun h=>?_⟩
 ·rw [List.length_nil];omega
 ·rw [List.length_nil] at h;omega
theorem len4 {α : Type} {l : List α} (h : l.length = 4) : ∃ a b c d,l = [a,b,c,d]:=by
 match l,h with
 | [a,b,c,d],_=>exact ⟨a,b,c,d,rfl⟩
theorem open_velem {W : World} {sp : Nat → Bool} {n : Nat} {cs : List Value} {x : DataW H × List MemPlace} (h : DataW.trod enc Tryz.prog W 0 sp true n 64 cs = some x) :
  ∃ t : S64,k64.K W t cs ∧ rngV t = true:=by
 obtain ⟨y0,y1,y2,y3,m,rfl,hl,h0,h1,h2,h3⟩:=trod_struct4 Tryz.underlying64 h
 obtain ⟨k,e0,rfl,w0⟩:=DataW.trod_int Tryz.underlying3 h0
 obtain ⟨n,e1,rfl,w1⟩:=DataW.trod_int Tryz.underlying3 h1
 obtain ⟨f,e2,rfl,w2⟩:=DataW.trod_int Tryz.underlying56 h2
 obtain ⟨t,e3,rfl,w3⟩:=DataW.trod_string Tryz.underlying9 h3
 have hc4 : Tryz.prog.cellsOf 64 = 4:=by kernel_rfl
 have hc1 : Tryz.prog.cellsOf 3 = 1:=by kernel_rfl
 have hc2 : Tryz.prog.cellsOf 9 = 1:=by kernel_rfl
 have hc3 : Tryz.prog.cellsOf 56 = 1:=by kernel_rfl
 rw [hc4] at hl
 obtain ⟨u0,u1,u2,u3,hu⟩:=len4 hl
 rw [hu,hc1] at e0 e1
 rw [hu,hc3] at e2
 rw [hu,hc2] at e3
 obtain rfl : u0 = .int .i64 k:=(List.cons.inj e0).1
 obtain rfl : u1 = .int .i64 n:=(List.cons.inj e1).1
 obtain rfl : u2 = .int .u64 f:=(List.cons.inj e2).1
 obtain rfl : u3 = .string t:=(List.cons.inj e3).1
 rw [hu]
 exact ⟨⟨k,n,f,t⟩,k64_mk W ⟨k,n,f,t⟩,(rngV_iff _).2 ⟨i64_of_wf w1,u64_of_wf w2⟩⟩
theorem choose_lt {α : Type} [Inhabited α] {n : Nat} {P : Nat → α → Prop} (h : ∀ i,i < n → ∃ x,P i x) : ∃ F : Nat → α,∀ i,i < n → P i (F i):=by
 classical
 refine ⟨fun i=>if hi : i < n then Classical.choose (h i hi) else default,fun i hi=>?_⟩
 simp only [hi,dif_pos]
 exact Classical.choose_spec (h i hi)
end
end Go.Proofs.YthpkjkcfhipjhaaGreatDoor
end
section
namespace Go.Proofs.YthpkjkcfhipjhaaGreatDoor
set_option linter.unusedVariables false
set_option linter.unusedSimpArgs false
open Go.ChangeShapes Go.WideShapes Go.ChangeAt Go.RowKit Go.Joins Go.Deep Go.Proofs.YthpkjkcfhipjhaaGreatDoorW.PrintWords PRW PZA
section
variable {H : Type} {enc : TypeId × Value → H}
set_option maxRecDepth 100000 in
theorem open_row_c {W : World} {fuel : Nat} {cs0 : List Value} {x0 : DataW H × List MemPlace} (hf : DataW.trod enc Tryz.prog W 0 (fun _=>true) true fuel 24 cs0 = some x0) :
  ∃ (A : Option Addr) (c : Nat) (L : List S64),cs0 = [Value.slice A L.length c] ∧ L.length ≤ c ∧ Kd.C k64 W A L.length L ∧ rngL L = true:=by
 rcases open_slice Tryz.underlying24 hf with ⟨hcs,hx⟩ | ⟨ad,len,cap,m,n,D,Pl,hcs,_,hl,hm,hmm,hx,he⟩
 ·subst hcs
  exact ⟨none,0,[],rfl,Nat.le_refl _,rowNil W,rfl⟩
 ·subst hcs
  have hc4 : Tryz.prog.cellsOf 64 = 4:=by kernel_rfl
  have hml : len ≤ m:=by rw [hmm];split <;> omega
  have key : ∀ i,i < len → ∃ t : S64,rngV t = true ∧ ∃ cs,cs.length = 4 ∧ k64.K W t cs ∧ ∀ j u,cs[j]? = some u → W.cell? (ad.add (i * 4 + j)) = some u:=by
   intro i hi
   obtain ⟨cs,h1,h2⟩:=he i (by omega)
   obtain ⟨t,hk,ht⟩:=open_velem h2
   rw [hc4] at h1
   obtain ⟨_,hlen,hcell⟩:=World.cells?_some h1
   refine ⟨t,ht,cs,hlen,hk,fun j u hu=>?_⟩
   have hj : j < 4:=by rw [← hlen];exact (List.getElem?_eq_some_iff.1 hu).1
   have:=hcell j hj
   rw [Deep.add_add,hu] at this
   exact this
  haveI : Inhabited S64:=⟨z64⟩
  obtain ⟨F,hF⟩:=choose_lt (α:=S64) key
  have hLl : ((List.range len).map F).length = len:=by simp
  refine ⟨some ad,cap,(List.range len).map F,by rw [hLl],by rw [hLl];exact hl, ?_, ?_⟩
  ·refine ⟨rfl,by rw [hLl];unfold maxLen at hm;omega,fun _=>⟨ad,rfl,fun j p hj=>?_⟩⟩
   have hjl : j < len:=by rw [← hLl];exact (List.getElem?_eq_some_iff.1 hj).1
   have : p = F j:=by simpa [hjl] using hj.symm
   subst this
   obtain ⟨_,cs,h1,h2,h3⟩:=hF j hjl
   exact ⟨cs,h1,h2,h3⟩
  ·refine List.all_eq_true.2 fun t ht=>?_
   obtain ⟨i,hi,rfl⟩:=List.mem_map.1 ht
   exact (hF i (List.mem_range.1 hi)).1
theorem len2 {α : Type} {l : List α} (h : l.length = 2) : ∃ a b,l = [a,b]:=by
 match l,h with
 | [a,b],_=>exact ⟨a,b,rfl⟩
theorem open_eelem {W : World} {n : Nat} {cs : List Value} {x : DataW H × List MemPlace} (h : DataW.trod enc Tryz.prog W 0 (fun _=>true) true n 48 cs = some x) :
  ∃ t : S48,k48.K W t cs ∧ rngL t.f0 = true ∧ I64 t.f1:=by
 obtain ⟨y0,y1,m,hx,hl,h0,h1⟩:=trod_struct2 Tryz.underlying48 h
 obtain ⟨A,c,L,e0,hc,hC,hg⟩:=open_row_c h0
 obtain ⟨n,e1,_,w1⟩:=DataW.trod_int Tryz.underlying3 h1
 have hc2 : Tryz.prog.cellsOf 48 = 2:=by kernel_rfl
 have hc1 : Tryz.prog.cellsOf 3 = 1:=by kernel_rfl
 have hcr : Tryz.prog.cellsOf 24 = 1:=by kernel_rfl
 rw [hc2] at hl
 obtain ⟨u0,u1,hu⟩:=len2 hl
 rw [hu,hcr] at e0
 rw [hu,hc1] at e1
 obtain rfl : u0 = .slice A L.length c:=(List.cons.inj e0).1
 obtain rfl : u1 = .int .i64 n:=(List.cons.inj e1).1
 rw [hu]
 exact ⟨⟨L,n⟩,k48_mk W ⟨L,n⟩ hc hC,hg,i64_of_wf w1⟩
theorem zNil (W : World) : Kd.C k48 W none ([] : List S48).length []:=by
 refine ⟨rfl, ?_,fun h=>?_⟩
 ·rw [List.length_nil];omega
 ·rw [List.length_nil] at h;omega
set_option maxRecDepth 100000 in
theorem open_z {W : World} {base : Nat} {v : Value} {d : DataW H} {p : List MemPlace} (hv : Value.okWide Tryz.prog W .any base 26 v)
  (h : DataW.Trod enc Tryz.prog W 0 (fun _=>true) true 26 v d p) :
  ∃ (A : Option Addr) (c : Nat) (L : List S48),v = Value.slice A L.length c ∧ L.length ≤ c ∧ Kd.C k48 W A L.length L ∧ rngE L = true:=by
 obtain ⟨A,len,cap,rfl⟩:=okWide_slice Tryz.underlying26 hv
 obtain ⟨fuel,hf⟩:=h
 rcases open_slice Tryz.underlying26 hf with ⟨hcs,hx⟩ | ⟨ad,l,c,m,n,D,Pl,hcs,_,hl,hm,hmm,hx,he⟩
 ·simp [Value.cells] at hcs
  obtain ⟨rfl,rfl,rfl⟩:=hcs
  exact ⟨none,0,[],rfl,Nat.le_refl _,zNil W,rfl⟩
 ·simp [Value.cells] at hcs
  obtain ⟨rfl,rfl,rfl⟩:=hcs
  have hc4 : Tryz.prog.cellsOf 48 = 2:=by kernel_rfl
  have hml : len ≤ m:=by rw [hmm];split <;> omega
  have key : ∀ i,i < len → ∃ t : S48,(rngL t.f0 = true ∧ I64 t.f1) ∧ ∃ cs,cs.length = 2 ∧ k48.K W t cs ∧ ∀ j u,cs[j]? = some u → W.cell? (ad.add (i * 2 + j)) = some u:=by
   intro i hi
   obtain ⟨cs,h1,h2⟩:=he i (by omega)
   obtain ⟨t,hk,ht⟩:=open_eelem h2
   rw [hc4] at h1
   obtain ⟨_,hlen,hcell⟩:=World.cells?_some h1
   refine ⟨t,ht,cs,hlen,hk,fun j u hu=>?_⟩
   have hj : j < 2:=by rw [← hlen];exact (List.getElem?_eq_some_iff.1 hu).1
   have:=hcell j hj
   rw [Deep.add_add,hu] at this
   exact this
  haveI : Inhabited S48:=⟨⟨[],0⟩⟩
  obtain ⟨F,hF⟩:=choose_lt (α:=S48) key
  have hLl : ((List.range len).map F).length = len:=by simp
  refine ⟨some ad,cap,(List.range len).map F,by rw [hLl],by rw [hLl];exact hl, ?_, ?_⟩
  ·refine ⟨rfl,by rw [hLl];unfold maxLen at hm;omega,fun _=>⟨ad,rfl,fun j p hj=>?_⟩⟩
   have hjl : j < len:=by rw [← hLl];exact (List.getElem?_eq_some_iff.1 hj).1
   have : p = F j:=by simpa [hjl] using hj.symm
   subst this
   obtain ⟨_,cs,h1,h2,h3⟩:=hF j hjl
   exact ⟨cs,h1,h2,h3⟩
  ·refine rngE_of fun t ht=>?_
   obtain ⟨i,hi,rfl⟩:=List.mem_map.1 ht
   exact (hF i (List.mem_range.1 hi)).1
end
end Go.Proofs.YthpkjkcfhipjhaaGreatDoor
end
section
namespace Go.Proofs.YthpkjkcfhipjhaaGreatDoor.zsetSums
set_option linter.unusedVariables false
set_option linter.unusedSimpArgs false
open Go.ChangeShapes Go.WideShapes Go.ChangeAt Go.RowKit Go.Joins Go.Deep
open Go.ChangeMaps (open_string shut_string)
set_option linter.unusedVariables false
set_option maxRecDepth 100000 in
theorem contract (H : Type) (enc : TypeId × Value → H) (W : World) (base : Nat) (args : Array Value) (ds gs : List (DataW H)) (before : List MemPlace)
  (hval : ∀ (j : Nat) t v,Tryz.f4.params[j]? = some t → args[j]? = some v → Value.okWide Tryz.prog W .any base t v)
  (hW : DataW.Whole enc Tryz.prog Tryz.f4.params.toList Rows.zsetSumsSpec.vars false W args.toList ds gs before) (hL : laidMetH Tryz.prog Rows.zsetSumsRow.laid W) (hSh : W.ShapedOpen Tryz.prog)
  (hZ : (DataW.weightsEach Tryz.prog (Tryz.f4.params.toList ++ (OpenSpec.ofChange Rows.zsetSumsSpec).bare.plain.varTypes Tryz.prog) (ds ++ gs)).all (· ≤ reachBytes) = true) :
  Calls Tryz.prog 4 args W fun e W'=>∃ v,e = .returned v ∧ Rows.zsetSumsSpec.post enc Tryz.prog Tryz.f4 false true false false W args v W':=by
 have hT : RTab W:=tab_of_laid (by rfl) (by rfl) hL hSh
 have hW':=hW
 obtain ⟨p,q,hA0,hV,rfl,hfz,hnd⟩:=hW
 have hA : DataW.TrodAll enc Tryz.prog W 0 (fun _=>true) true Tryz.f4.params.toList args.toList ds p:=hA0
 rw [Tryz.params4] at hA hval hZ
 obtain ⟨v0,vs0,d0,ds0,p0,q0,hargs,rfl,rfl,h0,r0⟩:=trodAll_cons hA
 obtain ⟨v1,vs1,d1,ds1,p1,q1,rfl,rfl,rfl,h1,r1⟩:=trodAll_cons r0
 obtain ⟨rfl,rfl,rfl⟩:=trodAll_nil r1
 obtain rfl : args = #[v0,v1]:=by cases args;simp_all
 obtain ⟨rfl,rfl⟩:=trodVars_none hV
 have k0:=h0
 have lt0 : ∀ x ∈ p0,x.block < W.heap.size:=by obtain ⟨m,hm⟩:=k0;exact DataW.trod_lt m _ _ _ hm
 have k1:=h1
 have lt1 : ∀ x ∈ p1,x.block < W.heap.size:=by obtain ⟨m,hm⟩:=k1;exact DataW.trod_lt m _ _ _ hm
 obtain ⟨A0,c0,L0,rfl,hc0,hr0,hg0⟩:=open_z (hval 0 26 v0 rfl rfl) h0
 obtain ⟨A1,c1,L1,rfl,hc1,hr1,hg1⟩:=open_z (hval 1 26 v1 rfl rfl) h1
 clear hA0
 simp only [List.append_nil] at hW'
 refine (walkZsetSums W A0 c0 L0 hc0 hr0 hg0 A1 c1 L1 hc1 hr1 hg1 hT).mono fun e W' ⟨he,bel⟩=>?_
 subst he
 exact ⟨_,rfl,_,_,_,[],_,[],hW',trodAll_mk1 (shut_bool Tryz.underlying4 _),(trodAll_cons_mk (Below.trod laidOut (by kernel_rfl) (of_decide_eq_true (by kernel_rfl)) k0 bel lt0) (trodAll_cons_mk (Below.trod laidOut (by kernel_rfl) (of_decide_eq_true (by kernel_rfl)) k1 bel lt1) trodAll_mk0)),rfl,bel.frame _,fun h=>by cases h⟩
theorem laid_met (os : Os) : laidMet Tryz.prog Rows.zsetSumsRow.laid ((World.laidAll Tryz.prog os Rows.zsetSumsRow.laid).forCall (fun _ _=>0) ⟨#[],#[.slice none 0 0,.slice none 0 0],[]⟩).memory :=
 laidMet_laidAll _ (by kernel_rfl) (by kernel_rfl)
theorem reads (os : Os) {H : Type} (enc : TypeId × Value → H) : ∃ places,DataW.whole enc Tryz.prog ((World.laidAll Tryz.prog os Rows.zsetSumsRow.laid).forCall (fun _ _=>0) ⟨#[],#[.slice none 0 0,.slice none 0 0],[]⟩).memory Tryz.f4.params.toList Rows.zsetSumsSpec.vars false #[(.slice none 0 0 : Value),.slice none 0 0].toList 8 = some ([.nil,.nil],[],places) :=
 ⟨[],by kernel_rfl⟩
set_option maxRecDepth 100000 in
theorem lifted (os : Os) (started : os.Started) (H : Type) (enc : TypeId × Value → H) (F : Stop.Interp) :
  ReturnsInHanded {} Tryz.checked os 4 .any ((OpenSpec.ofChange Rows.zsetSumsSpec).preRow enc Tryz.prog Tryz.f4 Rows.zsetSumsRow.domain false Rows.zsetSumsRow.laid) (((OpenSpec.ofChange Rows.zsetSumsSpec).at F).post enc Tryz.prog Tryz.f4 false true false false):=by
 obtain ⟨places,hx⟩:=reads os enc
 refine returnsInHanded_of_row (C:=Tryz.checked) (s:=(OpenSpec.ofChange Rows.zsetSumsSpec)) ownKn started (by kernel_rfl) Tryz.func4
  (witness_zip (enc:=enc) (C:=Tryz.checked) (World.laidAll Tryz.prog os Rows.zsetSumsRow.laid) #[.slice none 0 0,.slice none 0 0] (World.laidAll_os _ _ _) (by kernel_rfl) (by kernel_rfl) (by kernel_rfl)
   (OpenSpec.preRow_of_cond 8 hx (by kernel_rfl) (fun k hk=>by cases hk) (by kernel_rfl) (laid_met os))) ?_
 intro W base args ds gs before hval hW _ _ hZ hL hSh _
 exact contract H enc W base args ds gs before hval hW hL hSh hZ
theorem said : Rows.ZsetSumsSaid :=
 OpenClaim.holds_of_cond 4 Tryz.f4 rfl rfl rfl rfl rfl rfl rfl ⟨rfl,rfl,rfl,rfl,rfl⟩ rfl rfl rfl rfl rfl (by kernel_rfl) Tryz.func4 (by kernel_rfl)
  (of_decide_eq_true (by kernel_rfl)) (by unfold Func.isWrapper;first | (rw [if_pos (by decide +kernel)];kernel_rfl) | (rw [if_neg (by decide +kernel)];exact ⟨rfl,rfl⟩))
  (fun os started H enc _ F=>by rw [OpenClaim.pre_eq_preRow];exact lifted os started H enc F)
theorem plain (f : FuncId) (fn : Func) (hf : Tryz.pinned.checked.prog.funcNamed "freshet/freshetlaw03.ZsetSums" = some f) (hfn : Tryz.pinned.checked.prog.funcs[f]? = some fn) :
  true = Tryz.pinned.checked.prog.looks [] ∧ ∀ (j : Nat) t,fn.params[j]? = some t → Tryz.pinned.checked.prog.wantsStandIn t = false:=by
 obtain rfl : f = 4 := Option.some.inj ((show Tryz.prog.funcNamed "freshet/freshetlaw03.ZsetSums" = some 4 by kernel_rfl).symm.trans hf) |>.symm
 obtain rfl : fn = Tryz.f4:=(Option.some.inj (Tryz.func4.symm.trans hfn)).symm
 refine ⟨by kernel_rfl,fun j t ht=>?_⟩
 rw [Tryz.params4] at ht
 have hm:=Array.mem_of_getElem? ht
 have all : ∀ t ∈ (#[26,26] : Array Nat),Tryz.prog.wantsStandIn t = false:=by decide +kernel
 exact all t hm
/-- ████ THE CARD ████ -/
theorem card : Rows.ZsetSumsCardSaid :=
 Claim7.holds_tied_plain_at .later [] _ _ _ _ said (fun _ h=>by cases h) (by kernel_rfl) (fun _ h=>by cases h) zsetSums_row_tie rfl ⟨rfl,rfl⟩ (by kernel_rfl) rfl plain (by kernel_rfl)
#print axioms card
end Go.Proofs.YthpkjkcfhipjhaaGreatDoor.zsetSums
end
