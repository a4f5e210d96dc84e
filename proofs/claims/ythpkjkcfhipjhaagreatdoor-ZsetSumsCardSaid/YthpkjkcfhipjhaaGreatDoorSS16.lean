/- a part of the claim: what the card leans on, out of the texts ZL9 (put together by wip/tools/shake.py). -/
import Derived.Test.YthpkjkcfhipjhaaGreatDoorSS1
import Derived.Test.YthpkjkcfhipjhaaGreatDoorSS4
import Derived.Test.YthpkjkcfhipjhaaGreatDoorSS14
import Derived.Test.YthpkjkcfhipjhaaGreatDoorSS15
import Derived.Test.YthpkjkcfhipjhaaGreatDoorProg
import Derived.Below
import Derived.Deep.Draws
import Derived.Deep.AppendLies
import Derived.Maps.AppendAt
import Derived.OwnWalk
import Derived.Laws.BytesArg
import Derived.Laws.MakeOwn
import Derived.Laws.OwnMore
import Derived.Deep.OwnRows
import Derived.Tactics
import Derived.Lib.ConvBytes
import Derived.Laws.Slices
import Derived.WalkKit
import Derived.KernelRfl
import Derived.RowKit3
import Derived.Deep.LoopGhost
import Derived.Deep.QuietTactic
import Derived.BigQuiet
import Derived.WideLaws
import Derived.Deep.DeepCutAuto
import Derived.Deep.CutBlock
import Derived.Deep.RegionHeld3
import Derived.Laws.Rows
import Derived.Lib.AppendStr
import Derived.ArgAppend
import Derived.Laws.IdiomCopy
import Derived.OrdersHeld
import Derived.Laws.BitsLemmas
import Derived.RowKit
section
namespace Go.Proofs.YthpkjkcfhipjhaaGreatDoor
set_option linter.unusedVariables false
set_option linter.unusedSimpArgs false
open Go.RowKit Go.Proofs.YthpkjkcfhipjhaaGreatDoorW.PrintWords Go.Proofs.YthpkjkcfhipjhaaGreatDoorW.PrintLast PRW PZA PZF PZB PZLS
theorem evs {α : Type} {x : Option α} {a : α} (h : x = some a) : Ev (fun _=>x) a:=by rw [h];exact Ev.now a
/-- a list that is compared -/
def Small (l : List S48) : Prop:=l.length ≤ 1000 ∧ ∀ x ∈ l,x.f0.length ≤ 1024
theorem Small.nil : Small []:=⟨Nat.zero_le _,fun x hx=>by cases hx⟩
theorem Small.same {l : List S48} (h : Small l) : Ev (fun k=>freshetref03_Same.f k l l) true:=by
 have:=zsame_ev l l ⟨by have:=h.1;omega,fun x hx=>by have:=h.2 x hx;omega⟩
 rwa [decide_eq_true rfl] at this
theorem makeS {l : List S48} (hr : rngE l = true) (hl : l.length ≤ 1000) : Small (makeP l).1:=by
 cases hok : l.all okE
 ·rw [show makeP l = ([],1) by unfold makeP;rw [hok];rfl]
  exact Small.nil
 ·rcases make_cases l hr hok with ⟨_,y,h1,h2,_,h4⟩ | ⟨_,h1⟩
  ·rw [h1]
   exact ⟨by show y.length ≤ 1000;omega,fun x hx=>((soundZ_parts h2.rng h2.snd).1 x hx).2.2.2.2⟩
  ·rw [h1]
   exact Small.nil
theorem addS {a b : List S48} (ha : rngE a = true) (hb : rngE b = true) (hl : a.length ≤ 400) (hm : b.length ≤ 400) : Small (addP a b).1:=by
 unfold addP
 split
 ·exact makeS (rngE_of fun x hx=>by
   rcases List.mem_append.1 hx with hx | hx
   ·exact rngE_at ha x hx
   ·exact rngE_at hb x hx) (by rw [List.length_append];omega)
 ·exact Small.nil
theorem negSm {a : List S48} (ha : rngE a = true) (hl : a.length ≤ 400) : Small (negP a).1:=by
 unfold negP
 cases hs : soundZ a
 ·exact Small.nil
 ·rw [if_pos rfl]
  refine ⟨by rw [List.length_map];omega,fun x hx=>?_⟩
  obtain ⟨y,hy,rfl⟩:=List.mem_map.1 hx
  exact ((soundZ_parts ha hs).1 y hy).2.2.2.2
theorem subS {a b : List S48} (ha : rngE a = true) (hb : rngE b = true) (hl : a.length ≤ 400) (hm : b.length ≤ 400) : Small (subP a b).1:=by
 obtain ⟨n1,n2⟩:=negP_rng hb
 unfold subP
 split
 ·exact addS ha n1 hl (by omega)
 ·exact Small.nil
theorem sums_ev (a b : List S48) (ha : rngE a = true) (hb : rngE b = true) : Ev (fun k=>freshetlaw03_ZsetSums.f k a b) true:=by
 refine Ev.bind (evs (show xAwake3.f = some true from rfl)) ?_
 refine Ev.congr (fun k=>if_pos rfl) ?_
 have over : Ev (fun k=>freshetlaw03_ZsetSums.j0 k a b true) true:=Ev.step (fun k=>by rw [freshetlaw03_ZsetSums.j0];exact if_pos rfl) (Ev.now true)
 by_cases hl : (a.length : Int) > 400
 ·exact Ev.congr (fun k=>if_pos hl) over
 refine Ev.congr (fun k=>if_neg hl) ?_
 by_cases hm : (b.length : Int) > 400
 ·exact Ev.congr (fun k=>by rw [decide_eq_true hm]) over
 refine Ev.congr (fun k=>by rw [decide_eq_false hm]) ?_
 have hl4 : a.length ≤ 400:=by omega
 have hm4 : b.length ≤ 400:=by omega
 have last : Ev (fun k=>freshetlaw03_ZsetSums.j2 k a false) true:=by
  refine Ev.step (fun k=>by rw [freshetlaw03_ZsetSums.j2,if_neg Bool.false_ne_true]) ?_
  refine Ev.bind (neg_ev a ha (by omega)) ?_
  refine Ev.bind (neg3_ev a ha (by omega)) ?_
  refine Ev.bind (negSm ha hl4).same ?_
  refine Ev.congr (fun k=>if_pos rfl) ?_
  exact evs (by rw [beq_self_eq_true])
 have mid : Ev (fun k=>freshetlaw03_ZsetSums.j1 k a b false) true:=by
  refine Ev.step (fun k=>by rw [freshetlaw03_ZsetSums.j1,if_neg Bool.false_ne_true]) ?_
  refine Ev.bind (sub_ev a b ha (by omega) hb (by omega)) ?_
  refine Ev.bind (evs (show xSub3.f a b = some (subP a b) by unfold xSub3.f;rw [if_pos ⟨⟨ha,hl4⟩,hb,hm4⟩])) ?_
  refine Ev.bind (subS ha hb hl4 hm4).same ?_
  refine Ev.congr (fun k=>if_pos rfl) ?_
  exact Ev.congr (fun k=>by rw [bne_self_eq_false]) last
 refine Ev.step (fun k=>by rw [freshetlaw03_ZsetSums.j0,if_neg Bool.false_ne_true]) ?_
 refine Ev.bind (evs (show xAdd.f a b = some (addP a b) by unfold xAdd.f;rw [if_pos ⟨⟨ha,by omega⟩,hb,by omega⟩])) ?_
 refine Ev.bind (evs (show xAdd3.f a b = some (addP a b) by unfold xAdd3.f;rw [if_pos ⟨⟨ha,hl4⟩,hb,hm4⟩])) ?_
 refine Ev.bind (addS ha hb hl4 hm4).same ?_
 refine Ev.congr (fun k=>if_pos rfl) ?_
 exact Ev.congr (fun k=>by rw [bne_self_eq_false]) mid
theorem walkZsetSums (w : World) (A0 : Option Addr) (c0 : Nat) (L0 : List S48) (hc0 : L0.length ≤ c0) (hr0 : Kd.C k48 w A0 L0.length L0) (hg0 : rngE L0 = true) (A1 : Option Addr) (c1 : Nat) (L1 : List S48) (hc1 : L1.length ≤ c1) (hr1 : Kd.C k48 w A1 L1.length L1) (hg1 : rngE L1 = true) (ht : RTab w) :
  Calls Tryz.prog 4 #[.slice A0 L0.length c0,.slice A1 L1.length c1] w fun e w'=>e = .returned (.bool true) ∧ Below w.heap.size w w':=by
 obtain ⟨k,hk⟩:=sums_ev L0 L1 hg0 hg1
 exact freshetlaw03_ZsetSums.calls k A0 c0 L0 A1 c1 L1 true w hr0 hc0 hr1 hc1 ht (hk k (Nat.le_refl _))
end Go.Proofs.YthpkjkcfhipjhaaGreatDoor
end
