/- a part of the claim: what the card leans on, out of the texts EL6 (put together by wip/tools/shake.py). -/
import Derived.Test.YtakcjiinchghaaaGreatDoorQS6
import Derived.Test.YtakcjiinchghaaaGreatDoorQS10
import Derived.Test.YtakcjiinchghaaaGreatDoorQS11
section
namespace Go.Proofs.YtakcjiinchghaaaGreatDoor
set_option linter.unusedVariables false
set_option linter.unusedSimpArgs false
open Go.RowKit Go.Proofs.YtakcjiinchghaaaGreatDoorW.PrintWords Go.Proofs.YtakcjiinchghaaaGreatDoorW.PrintLast PRW PRT PETS
/-- two kinds that stand for the same: bad alike, and, where not bad, equal -/
def KR (p q : Knd) : Prop := p.bad = q.bad ∧ (p.bad = false → p = q ∧ 0 ≤ p.of_)
theorem kr_one (d : S41) (hc : (3 ≤ d.f0 ∧ d.f0 ≤ 5) ∨ (d.f0 = 6 ∧ 1 ≤ d.f1 ∧ d.f1 ≤ 4)) (a b : Knd) (h : KR a b) : KR (kOne d a) (kOne3 d b) := by
  obtain ⟨h1, h2⟩ := h
  cases hb : a.bad
  · obtain ⟨rfl, h0⟩ := h2 hb
    have key : kOne d a = kOne3 d a := by
      unfold kOne kOne3
      by_cases c3 : d.f0 = 3
      · rw [if_pos c3, if_pos c3]
      by_cases c4 : d.f0 = 4
      · rw [if_neg c3, if_neg c3, if_pos c4, if_pos c4]
      by_cases c5 : d.f0 = 5
      · rw [if_neg c3, if_neg c3, if_neg c4, if_neg c4, if_pos c5, if_pos c5]
      have c6 : d.f0 = 6 ∧ 1 ≤ d.f1 ∧ d.f1 ≤ 4 := by omega
      rw [if_neg c3, if_neg c3, if_neg c4, if_neg c4, if_neg c5, if_neg c5, if_pos c6.1]
      obtain ⟨_, q1, q2⟩ := c6
      congr 1
      · congr 2
        rw [Bool.eq_iff_iff]
        simp only [Bool.or_eq_true, Bool.and_eq_true, decide_eq_true_eq]
        omega
      · congr 1
        rw [Bool.eq_iff_iff]
        simp only [Bool.and_eq_true, decide_eq_true_eq]
        omega
    refine ⟨by rw [key], fun _ => ⟨key, ?_⟩⟩
    unfold kOne
    split
    · exact h0
    · split
      · show (0 : Int) ≤ 1; omega
      · split
        · show (0 : Int) ≤ 1; omega
        · split
          · show 0 ≤ d.f1; omega
          · exact h0
  · have hb' : b.bad = true := by rw [← h1]; exact hb
    have e1 : (kOne d a).bad = true := by
      unfold kOne
      split
      · simp [hb]
      · split
        · simp [hb]
        · split
          · exact hb
          · split
            · simp [hb]
            · exact hb
    have e2 : (kOne3 d b).bad = true := by
      unfold kOne3
      split
      · simp [hb']
      · split
        · simp [hb']
        · split
          · exact hb'
          · simp [hb']
    exact ⟨by rw [e1, e2], fun h => by rw [e1] at h; cases h⟩
theorem kr_two (d : S41) (hc : 10 ≤ d.f0 ∧ d.f0 ≤ 24) (a b a' b' : Knd) (h : KR a a') (h' : KR b b') : KR (kTwo d a b) (kTwo3 d a' b') := by
  obtain ⟨h1, h2⟩ := h
  obtain ⟨h1', h2'⟩ := h'
  have bad1 : (a.bad || b.bad) = true → (kTwo d a b).bad = true := fun hb => by
    unfold kTwo
    split
    · simp [hb]
    · split
      · simp [hb]
      · split
        · simp [hb]
        · split <;> simp [hb]
  have bad3 : (a'.bad || b'.bad) = true → (kTwo3 d a' b').bad = true := fun hb => by
    unfold kTwo3
    split
    · simp [hb]
    · split
      · simp [hb]
      · split
        · simp [hb]
        · split <;> simp [hb]
  cases hb : (a.bad || b.bad)
  · rw [Bool.or_eq_false_iff] at hb
    obtain ⟨rfl, p0⟩ := h2 hb.1
    obtain ⟨rfl, p1⟩ := h2' hb.2
    obtain ⟨a0, a1, a2, a3⟩ := a
    obtain ⟨b0, b1, b2, b3⟩ := b
    simp only at hb p0 p1
    obtain ⟨rfl, rfl⟩ := hb
    -- where the kinds are alike, the document's kind is the greater
    by_cases c22 : d.f0 = 22 ∨ d.f0 = 23
    · have e1 : kTwo d ⟨a0, a1, false, a3⟩ ⟨b0, b1, false, b3⟩ = kTwo3 d ⟨a0, a1, false, a3⟩ ⟨b0, b1, false, b3⟩ := by
        unfold kTwo kTwo3
        rw [if_pos c22, if_pos c22]
        congr 1
        simp only [Bool.false_or]
        rw [Bool.eq_iff_iff]
        simp only [Bool.or_eq_true, decide_eq_true_eq]
        omega
      refine ⟨by rw [e1], fun _ => ⟨e1, ?_⟩⟩
      unfold kTwo
      rw [if_pos c22]
      show (0 : Int) ≤ 1; omega
    cases hu : unlikeE ⟨a0, a1, false, a3⟩ ⟨b0, b1, false, b3⟩
    · have hk : kKind ⟨a0, a1, false, a3⟩ ⟨b0, b1, false, b3⟩ = max a0 b0 := by
        unfold unlikeE at hu
        simp only at hu
        unfold kKind
        simp only
        by_cases z : a0 = 0
        · rw [if_pos z]; omega
        · rw [if_neg z]
          by_cases z' : b0 = 0
          · omega
          · by_cases z2 : a0 = b0
            · omega
            · simp [z, z', z2] at hu
      have e1 : kTwo d ⟨a0, a1, false, a3⟩ ⟨b0, b1, false, b3⟩ = kTwo3 d ⟨a0, a1, false, a3⟩ ⟨b0, b1, false, b3⟩ := by
        unfold kTwo kTwo3
        rw [if_neg c22, if_neg c22, hk, hu]
        simp only [Bool.or_false, Bool.false_or]
        split
        · rfl
        · split
          · rfl
          · split
            · congr 1
              rw [Bool.and_comm]
            · congr 1
              (try simp only [Bool.or_assoc])
      refine ⟨by rw [e1], fun _ => ⟨e1, ?_⟩⟩
      unfold kTwo
      rw [if_neg c22]
      split
      · show 0 ≤ max a0 b0; omega
      · split
        · show (0 : Int) ≤ 1; omega
        · split
          · show 0 ≤ max a0 b0; omega
          · show 0 ≤ max a0 b0; omega
    · have e1 : (kTwo d ⟨a0, a1, false, a3⟩ ⟨b0, b1, false, b3⟩).bad = true := by
        unfold kTwo
        rw [if_neg c22, hu]
        split
        · simp
        · split
          · simp
          · split <;> simp
      have e2 : (kTwo3 d ⟨a0, a1, false, a3⟩ ⟨b0, b1, false, b3⟩).bad = true := by
        unfold kTwo3
        rw [if_neg c22, hu]
        split
        · simp
        · split
          · simp
          · split <;> simp
      exact ⟨by rw [e1, e2], fun h => by rw [e1] at h; cases h⟩
  · have e1 := bad1 hb
    have e2 := bad3 (by rw [← h1, ← h1']; exact hb)
    exact ⟨by rw [e1, e2], fun h => by rw [e1] at h; cases h⟩
theorem kr_none (cols : List S57) (w : Int) (d : S41) (hd : I64 d.f2.f1) (h : takesE w d = 0) : KR (kNone cols d) (kNone cols d) := by
  refine ⟨rfl, fun hb => ⟨rfl, ?_⟩⟩
  unfold kNone at hb ⊢
  split at hb
  · rename_i c
    rw [if_pos c]
    unfold takesE at h
    split at h
    · rename_i h3; rcases h3 with h3 | h3
      · exact (vt_range (o := d.f2.f0) (nl := decide (d.f2.f0 = 0)) (v := vOf d.f2) ⟨h3.2, hd, fun h => decide_eq_true h, fun _ => rfl⟩).1
      · omega
    · split at h
      · cases h
      · split at h <;> cases h
  · rename_i c
    rw [if_neg c]
    simp only [Bool.or_eq_false_iff, decide_eq_false_iff_not] at hb
    show 0 ≤ (rd_T57 cols d.f1).f1
    omega
/-- the types of the whole stand for the same -/
theorem typed_alike (e : List S41) (cols : List S57) (he : ∀ d ∈ e, I64 d.f2.f1) : KR (typedE e cols) (typed3 e cols) := by
  unfold typedE typed3
  cases hs : soundE e cols.length
  · exact ⟨rfl, fun h => by cases h⟩
  · rw [if_pos rfl, if_pos rfl]
    have hm := (soundE_iff.1 hs).2
    obtain ⟨x, hx, _⟩ := mrun_one (n0 := kNone cols) (n1 := kOne) (n2 := kTwo) (takes_ok (cols.length : Int)) hm
    obtain ⟨y, hy, _⟩ := mrun_one (n0 := kNone cols) (n1 := kOne3) (n2 := kTwo3) (takes_ok (cols.length : Int)) hm
    have hrel := mrun_rel (n0 := kNone cols) (n1 := kOne) (n2 := kTwo) (m0 := kNone cols) (m1 := kOne3) (m2 := kTwo3) (R := KR) (takes_ok (cols.length : Int)) e [] [] 1
      (fun d hd => ⟨fun ht => kr_none cols _ d (he d hd) ht, fun ht a b hab => kr_one d (takes_codes.2.1 ht) a b hab, fun ht a b a' b' h1 h2 => kr_two d (takes_codes.2.2 ht) a b a' b' h1 h2⟩) trivial hm
    rw [hx, hy] at hrel
    rw [hx, hy]
    exact hrel.1
theorem types_ev (e : List S41) (cols : List S57) (re : rngD e = true) : Ev (fun k => freshetlaw05_ExprTypes.f k e cols) true := by
  have hT : xType.f e cols = some (typeE e cols) := if_pos re
  have hS : xSafe.f e cols = some (safeE e cols) := if_pos re
  by_cases hl : (e.length : Int) > 4100
  · refine Ev.congr (f := fun _ => some true) (fun k => ?_) (Ev.now _)
    unfold freshetlaw05_ExprTypes.f xAwake5.f
    simp only [Option.bind_some, if_true]
    rw [if_pos hl]
  have ht := rtypes_ev e cols (fun d hd => (rngD_at re d hd).2.2)
  obtain ⟨r1, r2⟩ := typed_alike e cols (fun d hd => (rngD_at re d hd).2.1)
  have hty : Ev (fun k => freshetref05_Type.f k e cols) (typeE e cols) := by
    refine Ev.congr (f := fun k => (freshetref05_types.f k e cols).bind fun bt143 => (if bt143.2.2.1 = true then (some (0, false, false)) else (some (bt143.1, bt143.2.1, true)))) (fun k => rfl) (Ev.bind ht (Ev.congr (f := fun _ => some _) (fun k => ?_) (Ev.now _)))
    unfold typeE kndT
    cases hb : (typedE e cols).bad
    · obtain ⟨q, _⟩ := r2 hb
      rw [← q, hb]; rfl
    · rw [← r1, hb]; rfl
  have hsf : Ev (fun k => freshetref05_Safe.f k e cols) (safeE e cols) := by
    refine Ev.congr (f := fun k => (freshetref05_types.f k e cols).bind fun bt148 => (if bt148.2.2.1 = true then (some false) else (some (!bt148.2.2.2)))) (fun k => rfl) (Ev.bind ht (Ev.congr (f := fun _ => some _) (fun k => ?_) (Ev.now _)))
    unfold safeE kndT
    cases hb : (typedE e cols).bad
    · obtain ⟨q, _⟩ := r2 hb
      rw [← q, hb]; simp
    · rw [← r1, hb]; rfl
  refine Ev.congr (f := fun k => (freshetref05_Type.f k e cols).bind fun bt105 => (if (typeE e cols).1 = bt105.1 then (if ((typeE e cols).2.1 == bt105.2.1) = true then (if ((typeE e cols).2.2 == bt105.2.2) = true then ((freshetref05_Safe.f k e cols).bind fun t109 => (some (safeE e cols == t109))) else (some false)) else (some false)) else (some false))) (fun k => ?_) (Ev.bind hty ?_)
  · unfold freshetlaw05_ExprTypes.f xAwake5.f
    simp only [Option.bind_some, if_true]
    rw [if_neg hl, hT]
    simp only [Option.bind_some]
    rw [hS]; rfl
  · refine Ev.congr (f := fun k => (freshetref05_Safe.f k e cols).bind fun t109 => (some (safeE e cols == t109))) (fun k => ?_) (Ev.bind hsf (Ev.congr (f := fun _ => some true) (fun k => by simp) (Ev.now _)))
    rw [if_pos rfl, if_pos (by simp), if_pos (by simp)]
theorem walkExprTypes (w : World) (A0 : Option Addr) (c0 : Nat) (L0 : List S41) (hc0 : L0.length ≤ c0) (hr0 : Kd.C k41 w A0 L0.length L0) (hg0 : rngD L0 = true) (hz0 : L0.length ≤ 2513169434843)
    (A1 : Option Addr) (c1 : Nat) (L1 : List S57) (hc1 : L1.length ≤ c1) (hr1 : Kd.C k57 w A1 L1.length L1) (hg1 : ∀ x ∈ L1, I64 x.f1) (ht : ETab w) :
    Calls Tryz.prog 4 #[.slice A0 L0.length c0, .slice A1 L1.length c1] w fun e w' => e = .returned (.bool true) ∧ Below w.heap.size w w' := by
  obtain ⟨k, hk⟩ := (types_ev L0 L1 hg0).rounds
  exact freshetlaw05_ExprTypes.calls k A0 c0 L0 A1 c1 L1 true w hr0 hc0 hr1 hc1 ht hk
end Go.Proofs.YtakcjiinchghaaaGreatDoor
end
