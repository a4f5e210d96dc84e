/- a part of the claim: what the card leans on, out of the texts ZL2, ZL4, ZL5 (put together by wip/tools/shake.py). -/
import Derived.Test.YthpkjkcfhipjhaaDoorSW1
import Derived.Test.YthpkjkcfhipjhaaDoorSW2
import Derived.Test.YthpkjkcfhipjhaaDoorSW4
import Derived.Test.YthpkjkcfhipjhaaDoorSW5
import Derived.Test.YthpkjkcfhipjhaaDoorSW6
import Derived.Test.YthpkjkcfhipjhaaDoorSW8
import Derived.Test.YthpkjkcfhipjhaaDoorSW9
import Derived.Test.YthpkjkcfhipjhaaDoorSW11
import Derived.Test.YthpkjkcfhipjhaaDoorSW12
import Derived.Test.YthpkjkcfhipjhaaDoorSW13
import Derived.Test.YthpkjkcfhipjhaaDoorSW14
import Derived.Laws.BitsLemmas
import Derived.Test.YthpkjkcfhipjhaaDoorProg
import Derived.Below
import Derived.Deep.Draws
import Derived.Deep.AppendLies
import Derived.Maps.AppendAt
import Derived.OwnWalk
import Derived.Laws.BytesArg
import Derived.Laws.MakeOwn
import Derived.Laws.OwnMore
import Derived.Deep.OwnRows
import Derived.Tactics
import Derived.Lib.ConvBytes
import Derived.Laws.Slices
import Derived.WalkKit
import Derived.KernelRfl
import Derived.RowKit3
import Derived.Deep.LoopGhost
import Derived.Deep.QuietTactic
import Derived.BigQuiet
import Derived.WideLaws
import Derived.Deep.DeepCutAuto
import Derived.Deep.CutBlock
import Derived.Deep.RegionHeld3
import Derived.Laws.Rows
import Derived.Lib.AppendStr
import Derived.ArgAppend
import Derived.Laws.IdiomCopy
import Derived.OrdersHeld
import Derived.RowKit
section
namespace Go.Proofs.YthpkjkcfhipjhaaDoor
set_option linter.unusedVariables false
set_option linter.unusedSimpArgs false
open Go.RowKit Go.Proofs.YthpkjkcfhipjhaaDoorW.PrintWords Go.Proofs.YthpkjkcfhipjhaaDoorW.PrintLast PRW PZA PZB
theorem Zs.short {l : List S35} (h : Zs l) (hl : l.length ≤ 1000000) : shortE l := ⟨hl, fun x hx => by have := ((soundZ_parts h.rng h.snd).1 x hx).2.2.2.2; omega⟩
end Go.Proofs.YthpkjkcfhipjhaaDoor
end
section
namespace Go.Proofs.YthpkjkcfhipjhaaDoor
set_option linter.unusedVariables false
set_option linter.unusedSimpArgs false
open Go.RowKit Go.Proofs.YthpkjkcfhipjhaaDoorW.PrintWords Go.Proofs.YthpkjkcfhipjhaaDoorW.PrintLast PRW PZA PZB PZLW
theorem and31 (n : Int) : bits .and .i64 n 2147483647 = n % 2147483648 := by
  have h127 : (BitVec.ofInt 64 2147483647).toNat = 2 ^ 31 - 1 := by decide
  have key : (BitVec.ofInt 64 n &&& BitVec.ofInt 64 2147483647).toNat = (n % ((2 ^ 64 : Nat) : Int)).toNat % 2 ^ 31 := by
    rw [BitVec.toNat_and, BitVec.toNat_ofInt, h127, Nat.and_two_pow_sub_one_eq_mod]
  show IntKind.i64.wrap ((BitVec.ofInt 64 n &&& BitVec.ofInt 64 2147483647).toNat : Nat) = n % 2147483648
  rw [key, IntKind.wrap_i64]
  omega
theorem make_no' {l : List S35} (h : l.all okE = false) : makeP l = ([], 1) := by unfold makeP; rw [h]; rfl
theorem Wt_perm {a b : List S35} (h : a.Perm b) (r : List S56) : Wt a r = Wt b r := wt_perm cT (h.map _) r
theorem make_rev (l : List S35) (hr : rngE l = true) : makeP l.reverse = makeP l := by
  cases hok : l.all okE
  · rw [make_no' hok, make_no' (by rw [List.all_reverse]; exact hok)]
  · have hok2 : l.reverse.all okE = true := by rw [List.all_reverse]; exact hok
    have hr2 : rngE l.reverse = true := rngE_of fun x hx => rngE_at hr x (List.mem_reverse.1 hx)
    have hp : ∀ r, Wt l.reverse r = Wt l r := fun r => Wt_perm (List.reverse_perm l) r
    rcases make_cases l hr hok with ⟨f, z, h1, h2, h3, _⟩ | ⟨⟨r, f⟩, h1⟩
    · rcases make_cases l.reverse hr2 hok2 with ⟨f', y, k1, k2, k3, _⟩ | ⟨⟨r, f'⟩, k1⟩
      · rw [h1, k1, k2.ext h2 (fun r => by rw [k3, h3, hp])]
      · rw [hp, f r] at f'; cases f'
    · rcases make_cases l.reverse hr2 hok2 with ⟨f', _⟩ | ⟨_, k1⟩
      · have := f' r; rw [hp, f] at this; cases this
      · rw [h1, k1]
def hiSame (l : List S35) (r : List S56) : Int := (l.map fun y => if r = y.f0 then y.f1 / 2147483648 else 0).sum
def loSame (l : List S35) (r : List S56) : Int := (l.map fun y => if r = y.f0 then y.f1 % 2147483648 else 0).sum
theorem hiSame_snoc (l : List S35) (x : S35) (r : List S56) : hiSame (l ++ [x]) r = hiSame l r + if r = x.f0 then x.f1 / 2147483648 else 0 := by simp [hiSame]
theorem loSame_snoc (l : List S35) (x : S35) (r : List S56) : loSame (l ++ [x]) r = loSame l r + if r = x.f0 then x.f1 % 2147483648 else 0 := by simp [loSame]
theorem same_bd (l : List S35) (r : List S56) (h : ∀ x ∈ l, fair x.f1 = true) : -(l.length * 2147483648 : Int) ≤ hiSame l r ∧ hiSame l r ≤ l.length * 2147483648 ∧ 0 ≤ loSame l r ∧ loSame l r ≤ l.length * 2147483648 := by
  induction l with
  | nil => simp [hiSame, loSame]
  | cons x t ih =>
    obtain ⟨i1, i2, i3, i4⟩ := ih fun y hy => h y (List.mem_cons_of_mem _ hy)
    obtain ⟨f1, f2⟩ := fair_iff.1 (h x List.mem_cons_self)
    have e1 : hiSame (x :: t) r = (if r = x.f0 then x.f1 / 2147483648 else 0) + hiSame t r := by simp [hiSame]
    have e2 : loSame (x :: t) r = (if r = x.f0 then x.f1 % 2147483648 else 0) + loSame t r := by simp [loSame]
    have e3 : ((x :: t).length : Int) = t.length + 1 := by simp
    rw [e1, e2, e3]
    split <;> omega
theorem same_wt (l : List S35) (r : List S56) (hr : okR r = true) (h : ∀ x ∈ l, okR x.f0 = true) : Wt l r = hiSame l r * 2147483648 + loSame l r := by
  induction l with
  | nil => simp [Wt, wt, hiSame, loSame]
  | cons x t ih =>
    have i1 := ih fun y hy => h y (List.mem_cons_of_mem _ hy)
    have e1 : hiSame (x :: t) r = (if r = x.f0 then x.f1 / 2147483648 else 0) + hiSame t r := by simp [hiSame]
    have e2 : loSame (x :: t) r = (if r = x.f0 then x.f1 % 2147483648 else 0) + loSame t r := by simp [loSame]
    have e3 : Wt (x :: t) r = (if r = x.f0 then x.f1 else 0) + Wt t r := by
      unfold Wt
      rw [List.map_cons, wt_cons]
      congr 1
      by_cases hx : r = x.f0
      · have e : eqR cT r x.f0 = true := decide_eq_true (by subst hx; have := cT_ord.anti x.f0 x.f0; omega)
        rw [if_pos hx]
        show (if eqR cT r x.f0 = true then x.f1 else 0) = x.f1
        rw [if_pos e]
      · have e : ¬ eqR cT r x.f0 = true := fun e => hx (cT_same _ _ hr (h x List.mem_cons_self) (of_decide_eq_true e))
        rw [if_neg hx]
        show (if eqR cT r x.f0 = true then x.f1 else 0) = 0
        rw [if_neg e]
    rw [e1, e2, e3, i1]
    split <;> omega
theorem weights_ev (l : List S35) (hr : rngE l = true) : Ev (fun k => freshetlaw03_ZsetWeights.f k l) true := by
  by_cases hl : (l.length : Int) > 200
  · refine Ev.congr (f := fun _ => some true) (fun k => ?_) (Ev.now _)
    unfold freshetlaw03_ZsetWeights.f xAwake3.f
    simp only [Option.bind_some, if_true]
    rw [if_pos hl]
  have hmk : xMake.f l = some (makeP l) := by unfold xMake.f; rw [if_pos ⟨hr, by omega⟩]
  have hmk2 : xMake.f l.reverse = some (makeP l) := by
    unfold xMake.f
    rw [if_pos ⟨rngE_of fun x hx => rngE_at hr x (List.mem_reverse.1 hx), by rw [List.length_reverse]; omega⟩, make_rev l hr]
  suffices hs : ∀ z e, makeP l = (z, e) → shortE z ∧ Ev (fun k => freshetlaw03_ZsetWeights.j1 k l z e false) true by
    generalize hze : makeP l = q at *
    obtain ⟨z, e⟩ := q
    obtain ⟨hz, hj⟩ := hs z e rfl
    have hsm := zsame_ev z z hz
    rw [decide_eq_true rfl] at hsm
    have main : ∀ d i : Nat, d + i = l.length → Ev (fun k => freshetlaw03_ZsetWeights.l0 k l z e (l.drop d).reverse ((d : Int) - 1)) true := by
      intro d
      induction d with
      | zero =>
        intro i hi
        refine Ev.step (f := fun k => (freshetref03_Same.f k z z).bind fun t => freshetlaw03_ZsetWeights.j1 k l z e (!t)) (fun k => ?_) (Ev.bind hsm hj)
        simp only [freshetlaw03_ZsetWeights.l0]
        rw [if_neg (by omega), List.drop_zero, hmk2]
        simp only [Option.bind_some, if_true]
      | succ d ih =>
        intro i hi
        have h1 : d < l.length := by omega
        refine Ev.step (fun k => ?_) (ih (i + 1) (by omega))
        simp only [freshetlaw03_ZsetWeights.l0]
        rw [show ((d + 1 : Nat) : Int) - 1 = (d : Int) by omega, if_pos (by omega), if_pos (by omega), if_pos (by omega), if_pos (by rw [List.length_reverse, List.length_drop]; omega), rd_atE l d h1, w64k (by omega) (by omega)]
        rw [List.drop_eq_getElem_cons h1, List.reverse_cons]
    refine Ev.congr (fun k => ?_) (main l.length 0 (by omega))
    unfold freshetlaw03_ZsetWeights.f xAwake3.f
    simp only [Option.bind_some, if_true]
    rw [if_neg hl, hmk]
    simp only [Option.bind_some]
    rw [if_pos (by omega), if_pos (by omega), w64k (by omega) (by omega), List.drop_of_length_le (Nat.le_refl _)]
    rfl
  intro z e hze
  cases hok : l.all okE
  · rw [make_no' hok] at hze
    cases hze
    refine ⟨⟨by simp, fun x hx => absurd hx List.not_mem_nil⟩, ?_⟩
    refine Ev.step (f := fun _ => some true) (fun k => ?_) (Ev.now _)
    simp only [freshetlaw03_ZsetWeights.j1]
    rfl
  rcases make_cases l hr hok with ⟨ff, z', h1, Z, h3, h4⟩ | ⟨_, h1⟩
  rotate_left
  · rw [h1] at hze
    cases hze
    refine ⟨⟨by simp, fun x hx => absurd hx List.not_mem_nil⟩, ?_⟩
    refine Ev.step (f := fun _ => some true) (fun k => ?_) (Ev.now _)
    simp only [freshetlaw03_ZsetWeights.j1]
    rfl
  rw [h1] at hze
  cases hze
  refine ⟨Z.short (by omega), ?_⟩
  have hall : ∀ x ∈ l, fair x.f1 = true ∧ okR x.f0 = true := fun x hx => by
    have := List.all_eq_true.1 hok x hx
    unfold okE at this
    rw [Bool.and_eq_true] at this
    exact ⟨this.1, okR_iff.2 ⟨this.2, (rngE_at hr x hx).1⟩⟩
  have sz : xZSound.f z = some true := by unfold xZSound.f; rw [if_pos ⟨Z.rng, by omega⟩, Z.snd]
  -- the last loop: the distinct rows
  obtain ⟨D, hD1, hD2, hD3, hD4⟩ : ∃ d, distP z = (d, 0) ∧ Zs d ∧ d.length ≤ z.length ∧ ∀ x ∈ z, Wt d x.f0 = if x.f1 > 0 then 1 else 0 := by
    have hz := (soundZ_parts Z.rng Z.snd).1
    have hst : Zst cT (((z.filter fun x => decide (x.f1 > 0)).map oneE).map prE) := by
      have := Z.zst
      rw [Zst, List.pairwise_map] at this ⊢
      rw [List.pairwise_map]
      exact this.sublist List.filter_sublist
    have hZ : Zs ((z.filter fun x => decide (x.f1 > 0)).map oneE) := Zs.mk' (fun x hx => by
      obtain ⟨y, hy, rfl⟩ := List.mem_map.1 hx
      obtain ⟨_, _, h3, h4, _⟩ := hz y (List.mem_filter.1 hy).1
      exact ⟨by show (1 : Int) ≠ 0; omega, by show fair 1 = true; rfl, h3, h4⟩) hst
    refine ⟨_, by unfold distP; rw [Z.snd]; rfl, hZ, by rw [List.length_map]; exact List.length_filter_le _ _, fun x hx => ?_⟩
    by_cases hp : x.f1 > 0
    · rw [if_pos hp]
      exact hZ.mem (oneE x) (List.mem_map_of_mem (List.mem_filter.2 ⟨hx, decide_eq_true hp⟩))
    · rw [if_neg hp]
      refine wt_none cT _ _ ?_
      rw [Bool.eq_false_iff]
      intro hh
      obtain ⟨p, hp1, hp2⟩ := (has_iff cT _ _).1 hh
      obtain ⟨q, hq, rfl⟩ := List.mem_map.1 hp1
      obtain ⟨y, hy, rfl⟩ := List.mem_map.1 hq
      obtain ⟨hy1, hy2⟩ := List.mem_filter.1 hy
      have e : x.f0 = y.f0 := cT_same _ _ (Z.okR x hx) (Z.okR y hy1) hp2
      have w1 := Z.mem x hx
      have w2 := Z.mem y hy1
      rw [e, w2] at w1
      have := of_decide_eq_true hy2
      omega
  have sd : xZSound.f D = some true := by unfold xZSound.f; rw [if_pos ⟨hD2.rng, by omega⟩, hD2.snd]
  have wgt : ∀ (q : List S35) (r : List S56), Zs q → q.length ≤ 1000000 → okR r = true → xWeight.f q r = some (Wt q r) := fun q r Q hq hr => by
    unfold xWeight.f weightP
    rw [if_pos ⟨⟨Q.rng, hq⟩, (okR_iff.1 hr).2⟩, Q.snd, (okR_iff.1 hr).1]; rfl
  have L3 : ∀ d i : Nat, i + d = z.length → Ev (fun k => freshetlaw03_ZsetWeights.l3 k z D (i : Int)) true := by
    intro d
    induction d with
    | zero =>
      intro i hi
      refine Ev.step (f := fun _ => some true) (fun k => ?_) (Ev.now _)
      simp only [freshetlaw03_ZsetWeights.l3]
      rw [if_neg (by omega), decide_eq_true (by omega)]
    | succ d ih =>
      intro i hi
      have h1 : i < z.length := by omega
      have hm := List.getElem_mem h1
      have hw := wgt D z[i].f0 hD2 (by omega) (Z.okR _ hm)
      rw [hD4 _ hm] at hw
      refine Ev.step (fun k => ?_) (ih (i + 1) (by omega))
      simp only [freshetlaw03_ZsetWeights.l3]
      rw [if_pos (by omega), if_pos (by omega), rd_atE z i h1, hw]
      simp only [Option.bind_some]
      by_cases hp : z[i].f1 > 0
      · rw [if_pos hp, decide_eq_true hp, if_neg (by decide), if_neg (by decide), if_neg (by decide), w64k (by omega) (by omega)]; rfl
      · rw [if_neg hp, decide_eq_false hp, if_neg (by decide), if_neg (by decide), if_neg (by decide), w64k (by omega) (by omega)]; rfl
  have J4 : Ev (fun k => freshetlaw03_ZsetWeights.j4 k z D false) true := by
    refine Ev.step (fun k => ?_) (L3 z.length 0 (by omega))
    simp only [freshetlaw03_ZsetWeights.j4]
    rw [if_neg Bool.false_ne_true]; rfl
  have hdist := dist_ev z Z.rng (by omega)
  rw [hD1] at hdist
  -- the weights, row by row
  have L1 : ∀ d i : Nat, i + d = l.length → Ev (fun k => freshetlaw03_ZsetWeights.l1 k l z (i : Int)) true := by
    intro d
    induction d with
    | zero =>
      intro i hi
      refine Ev.step (f := fun k => (zset_Distinct.f k z).bind fun bt => if bt.2 = 0 then (xZSound.f bt.1).bind fun t => freshetlaw03_ZsetWeights.j4 k z bt.1 (!t) else freshetlaw03_ZsetWeights.j4 k z bt.1 true) (fun k => ?_) (Ev.bind hdist ?_)
      · simp only [freshetlaw03_ZsetWeights.l1]
        rw [if_neg (by omega)]
      · refine Ev.congr (fun k => ?_) J4
        show (if (0 : Int) = 0 then (xZSound.f D).bind fun t => freshetlaw03_ZsetWeights.j4 k z D (!t) else _) = _
        rw [if_pos rfl, sd]; rfl
    | succ d ih =>
      intro i hi
      have h1 : i < l.length := by omega
      have hm := List.getElem_mem h1
      have hok1 := (hall _ hm).2
      have L2 : ∀ d' j : Nat, j + d' = l.length → Ev (fun k => freshetlaw03_ZsetWeights.l2 k l z (i : Int) (hiSame (l.take j) l[i].f0) (loSame (l.take j) l[i].f0) (j : Int)) true := by
        intro d'
        induction d' with
        | zero =>
          intro j hj
          refine Ev.step (fun k => ?_) (ih (i + 1) (by omega))
          obtain ⟨b1, b2, b3, b4⟩ := same_bd l l[i].f0 (fun x hx => (hall x hx).1)
          have hwt := same_wt l l[i].f0 hok1 (fun x hx => (hall x hx).2)
          have hwz := wgt z l[i].f0 Z (by omega) hok1
          rw [h3, hwt] at hwz
          simp only [freshetlaw03_ZsetWeights.l2]
          rw [if_neg (by omega), if_pos (by omega), if_pos (by omega), List.take_of_length_le (by omega), rd_atE l i h1, hwz]
          simp only [Option.bind_some]
          rw [and31, and31, w64k (n := hiSame l l[i].f0 + loSame l l[i].f0 / 2147483648) (by omega) (by omega), if_pos (by omega), if_pos (by omega), w64k (by omega) (by omega)]
          rfl
        | succ d' ih' =>
          intro j hj
          have h2 : j < l.length := by omega
          refine Ev.step (fun k => ?_) (ih' (j + 1) (by omega))
          have hmj : ∀ x ∈ l.take j, fair x.f1 = true := fun x hx => (hall x (List.mem_of_mem_take hx)).1
          obtain ⟨b1, b2, b3, b4⟩ := same_bd (l.take j) l[i].f0 hmj
          rw [List.length_take] at b1 b2 b4
          obtain ⟨f1, f2⟩ := fair_iff.1 (hall _ (List.getElem_mem h2)).1
          simp only [freshetlaw03_ZsetWeights.l2]
          rw [if_pos (by omega), if_pos (by omega), if_pos (by omega), if_pos (by omega), rd_atE l i h1, rd_atE l j h2]
          unfold xSameR.f
          simp only [Option.bind_some]
          rw [List.take_succ_eq_append_getElem h2, hiSame_snoc, loSame_snoc]
          by_cases he : l[i].f0 = l[j].f0
          · rw [if_pos (decide_eq_true he), if_pos he, if_pos he, and31, w64k (n := hiSame (l.take j) l[i].f0 + l[j].f1 / 2147483648) (by omega) (by omega), w64k (n := loSame (l.take j) l[i].f0 + l[j].f1 % 2147483648) (by omega) (by omega), w64k (by omega) (by omega)]
            rfl
          · rw [if_neg (by simpa using he), if_neg he, if_neg he, Int.add_zero, Int.add_zero, w64k (by omega) (by omega)]
            rfl
      refine Ev.step (fun k => ?_) (L2 l.length 0 (by omega))
      simp only [freshetlaw03_ZsetWeights.l1]
      rw [if_pos (by omega)]
      rfl
  refine Ev.step (fun k => ?_) (L1 l.length 0 (by omega))
  simp only [freshetlaw03_ZsetWeights.j1]
  rw [if_neg Bool.false_ne_true, if_pos trivial, sz]
  rfl
end Go.Proofs.YthpkjkcfhipjhaaDoor
end
section
namespace Go.Proofs.YthpkjkcfhipjhaaDoor
set_option linter.unusedVariables false
set_option linter.unusedSimpArgs false
open Go.RowKit Go.Proofs.YthpkjkcfhipjhaaDoorW.PrintWords Go.Proofs.YthpkjkcfhipjhaaDoorW.PrintLast PRW PZA PZB PZLW
theorem hV : Kd.Heap k56 := Kd.heap_iso _ (Kd.heap_pair (Kd.heap_int _) (Kd.heap_pair (Kd.heap_int _) (Kd.heap_pair (Kd.heap_int _) Kd.heap_string)))
theorem hE : Kd.Heap k35 := Kd.heap_iso _ (Kd.heap_pair (Kd.heap_slice 56 hV) (Kd.heap_int _))
theorem walkZsetWeights (w : World) (A0 : Option Addr) (c0 : Nat) (L0 : List S35) (hc0 : L0.length ≤ c0) (hr0 : Kd.C k35 w A0 L0.length L0) (hg0 : rngE L0 = true) (ht : RTab w) :
    Calls Tryd.prog 4 #[.slice A0 L0.length c0] w fun e w' => e = .returned (.bool true) ∧ Below w.heap.size w w' := by
  obtain ⟨k, hk⟩ := (weights_ev L0 hg0).rounds
  refine freshetlaw03_ZsetWeights.calls k (fun _ => True) A0 c0 L0 true w (Kd.V_mk hc0 ?_) ht hk
  intro W' hW
  exact (Kd.heap_slice 35 hE).K (fun j hj => hW j trivial hj) ⟨A0, c0, rfl, hc0, hr0⟩ |>.elim fun A h => by
    obtain ⟨c, he, _, hC⟩ := h
    injection (List.cons.inj he).1 with h1
    rw [h1]; exact hC
end Go.Proofs.YthpkjkcfhipjhaaDoor
end
