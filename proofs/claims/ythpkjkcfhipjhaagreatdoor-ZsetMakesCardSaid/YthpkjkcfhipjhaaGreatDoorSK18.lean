/- a part of the claim: what the card leans on, out of the texts ZL8 (put together by wip/tools/shake.py). -/
import Derived.Test.YthpkjkcfhipjhaaGreatDoorSK1
import Derived.Test.YthpkjkcfhipjhaaGreatDoorSK4
import Derived.Test.YthpkjkcfhipjhaaGreatDoorSK16
import Derived.Test.YthpkjkcfhipjhaaGreatDoorSK17
import Derived.Test.YthpkjkcfhipjhaaGreatDoorProg
import Derived.Below
import Derived.Deep.Draws
import Derived.Deep.AppendLies
import Derived.Maps.AppendAt
import Derived.OwnWalk
import Derived.Laws.BytesArg
import Derived.Laws.MakeOwn
import Derived.Laws.OwnMore
import Derived.Deep.OwnRows
import Derived.Tactics
import Derived.Lib.ConvBytes
import Derived.Laws.Slices
import Derived.WalkKit
import Derived.KernelRfl
import Derived.RowKit3
import Derived.Deep.LoopGhost
import Derived.Deep.QuietTactic
import Derived.BigQuiet
import Derived.WideLaws
import Derived.Deep.DeepCutAuto
import Derived.Deep.CutBlock
import Derived.Deep.RegionHeld3
import Derived.Laws.Rows
import Derived.Lib.AppendStr
import Derived.ArgAppend
import Derived.Laws.IdiomCopy
import Derived.OrdersHeld
import Derived.Laws.BitsLemmas
import Derived.RowKit
section
namespace Go.Proofs.YthpkjkcfhipjhaaGreatDoor
set_option linter.unusedVariables false
set_option linter.unusedSimpArgs false
open Go.RowKit Go.Proofs.YthpkjkcfhipjhaaGreatDoorW.PrintWords Go.Proofs.YthpkjkcfhipjhaaGreatDoorW.PrintLast PRW PZA PZF PZB PZLM
theorem evk {α : Type} {x : Option α} {a : α} (h : x = some a) : Ev (fun _=>x) a:=by rw [h];exact Ev.now a
theorem makeP_small {l : List S48} (hr : rngE l = true) : rngE (makeP l).1 = true ∧ (makeP l).1.length ≤ l.length ∧ ∀ x ∈ (makeP l).1,x.f0.length ≤ 1024:=by
 cases hok : l.all okE
 ·rw [show makeP l = ([],1) by unfold makeP;rw [hok];rfl]
  exact ⟨rfl,Nat.zero_le _,fun x hx=>by cases hx⟩
 ·rcases make_cases l hr hok with ⟨_,y,h1,h2,_,h4⟩ | ⟨_,h1⟩
  ·rw [h1]
   exact ⟨h2.rng,h4,fun x hx=>((soundZ_parts h2.rng h2.snd).1 x hx).2.2.2.2⟩
  ·rw [h1]
   exact ⟨rfl,Nat.zero_le _,fun x hx=>by cases hx⟩
theorem distP_small {l : List S48} (hr : rngE l = true) : (distP l).1.length ≤ l.length ∧ ∀ x ∈ (distP l).1,x.f0.length ≤ 1024:=by
 unfold distP
 cases hs : soundZ l
 ·exact ⟨Nat.zero_le _,fun x hx=>by cases hx⟩
 ·refine ⟨?_,fun x hx=>?_⟩
  ·rw [if_pos rfl,List.length_map];exact List.length_filter_le _ _
  ·rw [if_pos rfl] at hx
   obtain ⟨y,hy,rfl⟩:=List.mem_map.1 hx
   exact ((soundZ_parts hr hs).1 y (List.mem_filter.1 hy).1).2.2.2.2
theorem same_self {l : List S48} (hl : l.length ≤ 1000) (h : ∀ x ∈ l,x.f0.length ≤ 1024) : Ev (fun k=>freshetref03_Same.f k l l) true:=by
 have:=zsame_ev l l ⟨by omega,fun x hx=>by have:=h x hx;omega⟩
 rwa [decide_eq_true rfl] at this
theorem makes_ev (l : List S48) (r : List S64) (hr : rngE l = true) (hrr : rngL r = true) : Ev (fun k=>freshetlaw03_ZsetMakes.f k l r) true:=by
 refine Ev.bind (evk (show xAwake3.f = some true from rfl)) ?_
 refine Ev.congr (fun k=>if_pos rfl) ?_
 by_cases hl : (l.length : Int) > 400
 ·exact Ev.congr (fun k=>if_pos hl) (Ev.now _)
 refine Ev.congr (fun k=>if_neg hl) ?_
 have hl4 : l.length ≤ 400:=by omega
 obtain ⟨m1,m2,m3⟩:=makeP_small hr
 obtain ⟨d2,d3⟩:=distP_small hr
 refine Ev.bind (evk (show xMake.f l = some (makeP l) by unfold xMake.f;rw [if_pos ⟨hr,by omega⟩])) ?_
 refine Ev.bind (evk (show xMake3.f l = some (makeP l) by unfold xMake3.f;rw [if_pos ⟨hr,by omega⟩])) ?_
 refine Ev.bind (dist_ev l hr (by omega)) ?_
 refine Ev.bind (dist3_ev l hr (by omega)) ?_
 refine Ev.bind (same_self (by omega) m3) ?_
 refine Ev.congr (fun k=>if_pos rfl) ?_
 refine Ev.congr (fun k=>if_pos rfl) ?_
 refine Ev.bind (evk (show xZSound.f l = some (soundZ l) by unfold xZSound.f;rw [if_pos ⟨hr,by omega⟩])) ?_
 refine Ev.bind (sound3_ev l hr (by omega)) ?_
 refine Ev.congr (fun k=>if_pos (beq_self_eq_true _)) ?_
 refine Ev.bind (same_self (by omega) d3) ?_
 refine Ev.congr (fun k=>if_pos rfl) ?_
 refine Ev.congr (fun k=>if_pos rfl) ?_
 refine Ev.bind (zshow_ev l hr (by omega)) ?_
 refine Ev.bind (show3_ev l hr (by omega)) ?_
 refine Ev.congr (fun k=>if_pos rfl) ?_
 refine Ev.bind (zshow_ev (makeP l).1 m1 (by omega)) ?_
 refine Ev.bind (show3_ev (makeP l).1 m1 (by omega)) ?_
 refine Ev.congr (fun k=>if_pos rfl) ?_
 refine Ev.bind (evk (show xWeight.f l r = some (weightP l r) by unfold xWeight.f;rw [if_pos ⟨⟨hr,by omega⟩,hrr⟩])) ?_
 refine Ev.bind (weight3_ev l r hr (by omega) hrr) ?_
 refine Ev.congr (fun k=>if_pos rfl) ?_
 refine Ev.bind (evk (show xWeight.f (makeP l).1 r = some (weightP (makeP l).1 r) by unfold xWeight.f;rw [if_pos ⟨⟨m1,by omega⟩,hrr⟩])) ?_
 refine Ev.bind (weight3_ev (makeP l).1 r m1 (by omega) hrr) ?_
 exact evk (by rw [beq_self_eq_true])
theorem walkZsetMakes (w : World) (A0 : Option Addr) (c0 : Nat) (L0 : List S48) (hc0 : L0.length ≤ c0) (hr0 : Kd.C k48 w A0 L0.length L0) (hg0 : rngE L0 = true) (A1 : Option Addr) (c1 : Nat) (L1 : List S64) (hc1 : L1.length ≤ c1) (hr1 : Kd.C k64 w A1 L1.length L1) (hg1 : rngL L1 = true) (ht : RTab w) :
  Calls Tryz.prog 3 #[.slice A0 L0.length c0,.slice A1 L1.length c1] w fun e w'=>e = .returned (.bool true) ∧ Below w.heap.size w w':=by
 obtain ⟨k,hk⟩:=makes_ev L0 L1 hg0 hg1
 exact freshetlaw03_ZsetMakes.calls k A0 c0 L0 A1 c1 L1 true w hr0 hc0 hr1 hc1 ht (hk k (Nat.le_refl _))
end Go.Proofs.YthpkjkcfhipjhaaGreatDoor
end
