/- a part of the claim: what the card leans on, out of the texts ZL2, ZL3 (put together by wip/tools/shake.py). -/
import Derived.Test.YthpkjkcfhipjhaaDoorSG13
import Derived.Test.YthpkjkcfhipjhaaDoorSG14
section
namespace Go.Proofs.YthpkjkcfhipjhaaDoor
set_option linter.unusedVariables false
set_option linter.unusedSimpArgs false
open Go.RowKit Go.Proofs.YthpkjkcfhipjhaaDoorW.PrintWords Go.Proofs.YthpkjkcfhipjhaaDoorW.PrintLast PRW PZA PZB PZLG
theorem Zs.short {l : List S35} (h : Zs l) (hl : l.length ≤ 1000000) : shortE l := ⟨hl, fun x hx => by have := ((soundZ_parts h.rng h.snd).1 x hx).2.2.2.2; omega⟩
theorem xAdd_at {a b : List S35} (ha : Zs a) (hb : Zs b) (la : a.length ≤ 500000) (lb : b.length ≤ 500000) : xAdd.f a b = some (addP a b) := by
  unfold xAdd.f; rw [if_pos ⟨⟨ha.rng, la⟩, hb.rng, lb⟩]
theorem group_ev (a b c : List S35) (ra : rngE a = true) (rb : rngE b = true) (rc : rngE c = true) : Ev (fun k => freshetlaw03_ZsetGroup.f k a b c) true := by
  have J0 : Ev (fun k => freshetlaw03_ZsetGroup.j0 k a b c true) true := by
    refine Ev.step (f := fun _ => some true) (fun k => ?_) (Ev.now _)
    simp only [freshetlaw03_ZsetGroup.j0]
    rw [if_pos trivial]
  by_cases la : (a.length : Int) > 400
  · refine Ev.congr (fun k => ?_) J0
    unfold freshetlaw03_ZsetGroup.f xAwake3.f
    simp only [Option.bind_some, if_true]
    rw [if_pos la]
  by_cases lb : (b.length : Int) > 400
  · refine Ev.congr (fun k => ?_) J0
    unfold freshetlaw03_ZsetGroup.f xAwake3.f
    simp only [Option.bind_some, if_true]
    rw [if_neg la, if_pos lb]
  by_cases lc : (c.length : Int) > 400
  · refine Ev.congr (fun k => ?_) J0
    unfold freshetlaw03_ZsetGroup.f xAwake3.f
    simp only [Option.bind_some, if_true]
    rw [if_neg la, if_neg lb, if_pos lc]
  have sa : xZSound.f a = some (soundZ a) := by unfold xZSound.f; rw [if_pos ⟨ra, by omega⟩]
  have sb : xZSound.f b = some (soundZ b) := by unfold xZSound.f; rw [if_pos ⟨rb, by omega⟩]
  have sc : xZSound.f c = some (soundZ c) := by unfold xZSound.f; rw [if_pos ⟨rc, by omega⟩]
  cases ha : soundZ a
  · refine Ev.congr (fun k => ?_) J0
    unfold freshetlaw03_ZsetGroup.f xAwake3.f
    simp only [Option.bind_some, if_true]
    rw [if_neg la, if_neg lb, if_neg lc, sa, ha]; rfl
  cases hb : soundZ b
  · refine Ev.congr (fun k => ?_) J0
    unfold freshetlaw03_ZsetGroup.f xAwake3.f
    simp only [Option.bind_some, if_true]
    rw [if_neg la, if_neg lb, if_neg lc, sa, ha, sb, hb]; rfl
  cases hc : soundZ c
  · refine Ev.congr (fun k => ?_) J0
    unfold freshetlaw03_ZsetGroup.f xAwake3.f
    simp only [Option.bind_some, if_true]
    rw [if_neg la, if_neg lb, if_neg lc, sa, ha, sb, hb, sc, hc]; rfl
  have A : Zs a := ⟨ra, ha⟩
  have B : Zs b := ⟨rb, hb⟩
  have C : Zs c := ⟨rc, hc⟩
  refine Ev.congr (f := fun k => freshetlaw03_ZsetGroup.j0 k a b c false) (fun k => ?_) ?_
  · unfold freshetlaw03_ZsetGroup.f xAwake3.f
    simp only [Option.bind_some, if_true]
    rw [if_neg la, if_neg lb, if_neg lc, sa, ha, sb, hb, sc, hc]; rfl
  have xab := xAdd_at A B (by omega) (by omega)
  have xba := xAdd_at B A (by omega) (by omega)
  rw [← add_comm' A B] at xba
  -- the sum in either order is one
  have subaa : Ev (fun k => zset_Sub.f k a a) (([] : List S35), 0) := by
    have h := sub_ev a a ra (by omega) ra (by omega)
    rw [sub_is A] at h
    obtain ⟨n1, n2, n3⟩ := neg_ok A
    obtain ⟨z, h1, h2, h3, _⟩ := add_ok A n2 (fun r => by rw [n3, show Wt a r + -Wt a r = 0 by omega]; rfl)
    rw [h1, h2.empty (fun r => by rw [h3, n3]; omega)] at h
    exact h
  have step1 : ∀ x e, addP a b = (x, e) → Ev (fun k => freshetlaw03_ZsetGroup.j2 k a b c x e false) true → shortE x → Ev (fun k => freshetlaw03_ZsetGroup.j0 k a b c false) true := by
    intro x e hx hj hs
    have hsm := zsame_ev x x hs
    rw [decide_eq_true rfl] at hsm
    have j1 : Ev (fun k => freshetlaw03_ZsetGroup.j1 k a b c x e false) true := by
      refine Ev.step (f := fun k => (zset_Sub.f k a a).bind fun bt => if bt.2 = 0 then freshetlaw03_ZsetGroup.j2 k a b c x e ((bt.1.length : Int) != 0) else freshetlaw03_ZsetGroup.j2 k a b c x e true) (fun k => ?_) (Ev.bind subaa ?_)
      · simp only [freshetlaw03_ZsetGroup.j1]
        rw [if_neg Bool.false_ne_true]
      · exact hj
    refine Ev.step (f := fun k => (freshetref03_Same.f k x x).bind fun t => freshetlaw03_ZsetGroup.j1 k a b c x e (!t)) (fun k => ?_) (Ev.bind hsm ?_)
    · simp only [freshetlaw03_ZsetGroup.j0]
      rw [if_neg Bool.false_ne_true, xab, xba, hx]
      simp only [Option.bind_some, if_true]
    · exact j1
  rcases add_cases A B with ⟨f1, x, h1, X, h3, h4⟩ | ⟨_, h1⟩
  · refine step1 x 0 h1 ?_ (X.short (by omega))
    have subxb : Ev (fun k => zset_Sub.f k x b) (a, 0) := by
      have h := sub_ev x b X.rng (by omega) rb (by omega)
      rw [sub_is B] at h
      obtain ⟨n1, n2, n3⟩ := neg_ok B
      obtain ⟨z, k1, k2, k3, _⟩ := add_ok X n2 (fun r => by rw [n3, h3, show Wt a r + Wt b r + -Wt b r = Wt a r by omega]; exact A.fairW r)
      rw [k1, k2.ext A (fun r => by rw [k3, n3, h3]; omega)] at h
      exact h
    have hsm := zsame_ev a a (A.short (by omega))
    rw [decide_eq_true rfl] at hsm
    refine Ev.step (f := fun k => (zset_Sub.f k x b).bind fun bt => if bt.2 = 0 then (freshetref03_Same.f k bt.1 a).bind fun t => freshetlaw03_ZsetGroup.j3 k a b c x (!t) else freshetlaw03_ZsetGroup.j3 k a b c x true) (fun k => ?_) (Ev.bind subxb ?_)
    · simp only [freshetlaw03_ZsetGroup.j2]
      rw [if_neg Bool.false_ne_true]; rfl
    refine Ev.congr (f := fun k => (freshetref03_Same.f k a a).bind fun t => freshetlaw03_ZsetGroup.j3 k a b c x (!t)) (fun k => rfl) (Ev.bind hsm ?_)
    have xxc := xAdd_at X C (by omega) (by omega)
    have xbc := xAdd_at B C (by omega) (by omega)
    have J4 : ∀ p q, Ev (fun k => freshetlaw03_ZsetGroup.j4 k a p q true) true := fun p q => by
      refine Ev.step (f := fun _ => some true) (fun k => ?_) (Ev.now _)
      simp only [freshetlaw03_ZsetGroup.j4]
      rw [if_pos trivial]
    rcases add_cases X C with ⟨f2, l, l1, L, l3, l4⟩ | ⟨_, l1⟩
    · rcases add_cases B C with ⟨f3, m, m1, M, m3, m4⟩ | ⟨_, m1⟩
      · obtain ⟨r, r1, R, r3, r4⟩ := add_ok A M (fun r => by rw [m3, show Wt a r + (Wt b r + Wt c r) = Wt a r + Wt b r + Wt c r by omega, ← h3]; exact f2 r)
        have hlr : l = r := L.ext R (fun q => by rw [l3, r3, h3, m3]; omega)
        have hsr := zsame_ev l r (L.short (by omega))
        rw [decide_eq_true hlr] at hsr
        have xam := xAdd_at A M (by omega) (by omega)
        have j4 : Ev (fun k => freshetlaw03_ZsetGroup.j4 k a l m false) true := by
          refine Ev.step (f := fun k => (freshetref03_Same.f k l r).bind fun t => some t) (fun k => ?_) (Ev.bind hsr (Ev.now _))
          simp only [freshetlaw03_ZsetGroup.j4]
          rw [if_neg Bool.false_ne_true, xam, r1]
          rfl
        refine Ev.step (fun k => ?_) j4
        simp only [freshetlaw03_ZsetGroup.j3]
        rw [show (!true) = false from rfl, if_neg Bool.false_ne_true, xxc, xbc, l1, m1]
        rfl
      · refine Ev.step (fun k => ?_) (J4 l [])
        simp only [freshetlaw03_ZsetGroup.j3]
        rw [show (!true) = false from rfl, if_neg Bool.false_ne_true, xxc, xbc, l1, m1]
        rfl
    · refine Ev.step (fun k => ?_) (J4 [] (addP b c).1)
      simp only [freshetlaw03_ZsetGroup.j3]
      rw [show (!true) = false from rfl, if_neg Bool.false_ne_true, xxc, xbc, l1]
      rfl
  · refine step1 [] 11 h1 ?_ ⟨by simp, fun x hx => absurd hx List.not_mem_nil⟩
    refine Ev.step (f := fun _ => some true) (fun k => ?_) (Ev.now _)
    simp only [freshetlaw03_ZsetGroup.j2]
    rw [if_neg Bool.false_ne_true]
    rfl
end Go.Proofs.YthpkjkcfhipjhaaDoor
end
section
namespace Go.Proofs.YthpkjkcfhipjhaaDoor
set_option linter.unusedVariables false
set_option linter.unusedSimpArgs false
open Go.RowKit Go.Proofs.YthpkjkcfhipjhaaDoorW.PrintWords Go.Proofs.YthpkjkcfhipjhaaDoorW.PrintLast PRW PZA PZB PZLG
theorem walkZsetGroup (w : World) (A0 : Option Addr) (c0 : Nat) (L0 : List S35) (hc0 : L0.length ≤ c0) (hr0 : Kd.C k35 w A0 L0.length L0) (hg0 : rngE L0 = true)
    (A1 : Option Addr) (c1 : Nat) (L1 : List S35) (hc1 : L1.length ≤ c1) (hr1 : Kd.C k35 w A1 L1.length L1) (hg1 : rngE L1 = true)
    (A2 : Option Addr) (c2 : Nat) (L2 : List S35) (hc2 : L2.length ≤ c2) (hr2 : Kd.C k35 w A2 L2.length L2) (hg2 : rngE L2 = true) (ht : RTab w) :
    Calls Tryd.prog 3 #[.slice A0 L0.length c0, .slice A1 L1.length c1, .slice A2 L2.length c2] w fun e w' => e = .returned (.bool true) ∧ Below w.heap.size w w' := by
  obtain ⟨k, hk⟩ := (group_ev L0 L1 L2 hg0 hg1 hg2).rounds
  exact freshetlaw03_ZsetGroup.calls k A0 c0 L0 A1 c1 L1 A2 c2 L2 true w hr0 hc0 hr1 hc1 hr2 hc2 ht hk
end Go.Proofs.YthpkjkcfhipjhaaDoor
end
