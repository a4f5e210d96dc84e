/- RowOrders, in plain words: the bytes of rows stand as the rows do. -/
import Derived.Test.YthpkjkcfhipjhaaDoorRQ1
import Derived.Test.YthpkjkcfhipjhaaDoorPROx
namespace Go.Proofs.YthpkjkcfhipjhaaDoor
set_option linter.unusedVariables false
set_option linter.unusedSimpArgs false
open Go.RowKit Go.Proofs.YthpkjkcfhipjhaaDoorW.PrintWords Go.Proofs.YthpkjkcfhipjhaaDoorW.PrintLast PRW PRO

theorem bl_cb : ∀ a b : List UInt8, Op.bytesLess a b = decide (Lib.compareBytes a b < 0)
  | [], [] => rfl
  | [], _ :: _ => rfl
  | _ :: _, [] => rfl
  | x :: a, y :: b => by
    have ih := bl_cb a b
    by_cases h : x = y
    · subst h
      have e : Lib.compareBytes (x :: a) (x :: b) = Lib.compareBytes a b := cb_pre [x] a b
      rw [e, ← ih]
      simp [Op.bytesLess]
    · have e : Lib.compareBytes (x :: a) (y :: b) = Lib.compareInt x.toNat y.toNat := Apart.cb ⟨[], x, y, a, b, rfl, rfl, h, rfl⟩
      have h3 : x.toNat ≠ y.toNat := fun e => h (UInt8.toNat_inj.1 e)
      rw [e]
      by_cases hl : x < y
      · have := UInt8.lt_iff_toNat_lt.1 hl
        have h5 : Lib.compareInt x.toNat y.toNat = -1 := (ci_lt _ _).2 (by omega)
        rw [h5]; simp [Op.bytesLess, hl]
      · have h4 : y < x := by rw [UInt8.lt_iff_toNat_lt] at hl ⊢; omega
        have := UInt8.lt_iff_toNat_lt.1 h4
        have h5 : Lib.compareInt x.toNat y.toNat = 1 := (ci_gt _ _).2 (by omega)
        rw [h5]; simp [Op.bytesLess, hl, h]

/-- the order of rows is one -/
structure RowOk (l : List S56) : Prop where
  ok : ∀ x ∈ l.map toV, okV x
  len : l.length ≤ 1024
theorem cmp_cb {a b : List S56} (ha : RowOk a) (hb : RowOk b) : cmpL (a.map toV) (b.map toV) = Lib.compareBytes (encR (a.map toV)) (encR (b.map toV)) := (enc_order _ _ ha.ok hb.ok).symm
theorem cmp_anti {a b : List S56} (ha : RowOk a) (hb : RowOk b) : cmpL (a.map toV) (b.map toV) = -(cmpL (b.map toV) (a.map toV)) := by rw [cmp_cb ha hb, cmp_cb hb ha]; exact cb_anti _ _
theorem cmp_range {a b : List S56} (ha : RowOk a) (hb : RowOk b) : cmpL (a.map toV) (b.map toV) = -1 ∨ cmpL (a.map toV) (b.map toV) = 0 ∨ cmpL (a.map toV) (b.map toV) = 1 := by rw [cmp_cb ha hb]; exact cb_range _ _
theorem cmp_trans {a b c : List S56} (ha : RowOk a) (hb : RowOk b) (hc : RowOk c) (h1 : cmpL (a.map toV) (b.map toV) ≤ 0) (h2 : cmpL (b.map toV) (c.map toV) ≤ 0) : cmpL (a.map toV) (c.map toV) ≤ 0 := by
  rw [cmp_cb ha hb] at h1
  rw [cmp_cb hb hc] at h2
  rw [cmp_cb ha hc]
  exact cb_trans _ _ _ h1 h2
theorem cmp_same {a b : List S56} (ha : RowOk a) (hb : RowOk b) : cmpL (a.map toV) (b.map toV) = 0 ↔ a = b := by
  rw [cmp_cb ha hb, cb_same]
  constructor
  · intro h
    have h1 := dec_enc _ ha.ok (by rw [List.length_map]; exact ha.len)
    have h2 := dec_enc _ hb.ok (by rw [List.length_map]; exact hb.len)
    rw [h, h2] at h1
    have h3 : b.map toV = a.map toV := by injection h1
    have h4 := congrArg (fun z => z.map ofV) h3
    rw [map_ofV_toV, map_ofV_toV] at h4
    exact h4.symm
  · rintro rfl; rfl

theorem rowOk {l : List S56} (hs : soundL l = true) (hr : rngL l = true) : RowOk l := ⟨(sound_all hs hr).1, (sound_all hs hr).2⟩

theorem orders_ev (l0 l1 l2 : List S56) (h0 : rngL l0 = true) (h1 : rngL l1 = true) (h2 : rngL l2 = true) : Ev (fun k => freshetlaw02_RowOrders.f k l0 l1 l2) true := by
  have hE0 : xEncode.f l0 = some (encP l0) := by unfold xEncode.f; rw [if_pos h0]
  have hE1 : xEncode.f l1 = some (encP l1) := by unfold xEncode.f; rw [if_pos h1]
  have hC01 : xRowCompare.f l0 l1 = some (cmpLS l0 l1) := by unfold xRowCompare.f; rw [if_pos ⟨h0, h1⟩]
  have hC10 : xRowCompare.f l1 l0 = some (cmpLS l1 l0) := by unfold xRowCompare.f; rw [if_pos ⟨h1, h0⟩]
  have hC12 : xRowCompare.f l1 l2 = some (cmpLS l1 l2) := by unfold xRowCompare.f; rw [if_pos ⟨h1, h2⟩]
  have hC02 : xRowCompare.f l0 l2 = some (cmpLS l0 l2) := by unfold xRowCompare.f; rw [if_pos ⟨h0, h2⟩]
  have hS2 : xRowSound.f l2 = some (soundL l2) := by unfold xRowSound.f; rw [if_pos h2]
  have J0 : ∀ x y : ByteArray, cmpLS l0 l1 = 0 → Ev (fun k => freshetlaw02_RowOrders.j0 k l0 l1 l2 x y true) true := by
    intro x y hc
    refine Ev.step (f := fun _ => some true) (fun k => ?_) (Ev.now _)
    simp only [freshetlaw02_RowOrders.j0, if_true]
    rw [hC01, Option.bind_some, hc]; rfl
  cases hs0 : soundL l0
  · have hp : encP l0 = (⟨#[]⟩, 1) := by unfold encP; rw [hs0]; rfl
    refine Ev.congr (fun k => ?_) (J0 ⟨#[]⟩ (encP l1).1 (by unfold cmpLS; rw [hs0]; rfl))
    simp only [freshetlaw02_RowOrders.f, xAwake2.f, Option.bind_some]
    rw [if_pos trivial, hE0, Option.bind_some, hE1, Option.bind_some, hp]
    simp only
    rw [if_neg (by decide)]
  · cases hs1 : soundL l1
    · have hp : encP l1 = (⟨#[]⟩, 1) := by unfold encP; rw [hs1]; rfl
      have hq : encP l0 = (bs (encR (l0.map toV)), 0) := by unfold encP; rw [hs0]; rfl
      refine Ev.congr (fun k => ?_) (J0 (bs (encR (l0.map toV))) ⟨#[]⟩ (by unfold cmpLS; rw [hs0, hs1]; rfl))
      simp only [freshetlaw02_RowOrders.f, xAwake2.f, Option.bind_some]
      rw [if_pos trivial, hE0, Option.bind_some, hE1, Option.bind_some, hp, hq]
      simp only
      rw [if_pos trivial]; rfl
    · have o0 := rowOk hs0 h0
      have o1 := rowOk hs1 h1
      have hp : encP l0 = (bs (encR (l0.map toV)), 0) := by unfold encP; rw [hs0]; rfl
      have hq : encP l1 = (bs (encR (l1.map toV)), 0) := by unfold encP; rw [hs1]; rfl
      have e01 : cmpLS l0 l1 = cmpL (l0.map toV) (l1.map toV) := by unfold cmpLS; rw [hs0, hs1]; rfl
      have e10 : cmpLS l1 l0 = cmpL (l1.map toV) (l0.map toV) := by unfold cmpLS; rw [hs0, hs1]; rfl
      have an := cmp_anti o0 o1
      have rg := cmp_range o0 o1
      have sm := cmp_same o0 o1
      have cb := cmp_cb o0 o1
      have cb2 := cmp_cb o1 o0
      have hlt : Op.bytesLess (bs (encR (l0.map toV))).toList (bs (encR (l1.map toV))).toList = decide (cmpL (l0.map toV) (l1.map toV) < 0) := by
        rw [ByteArray.toList_eq, ByteArray.toList_eq, bs_list, bs_list, bl_cb, cb]
      have hgt : Op.bytesLess (bs (encR (l1.map toV))).toList (bs (encR (l0.map toV))).toList = decide (cmpL (l0.map toV) (l1.map toV) > 0) := by
        rw [ByteArray.toList_eq, ByteArray.toList_eq, bs_list, bs_list, bl_cb, ← cb2]
        by_cases h : cmpL (l0.map toV) (l1.map toV) > 0
        · rw [decide_eq_true h, decide_eq_true (by omega)]
        · rw [decide_eq_false h, decide_eq_false (by omega)]
      rw [e01] at hC01
      rw [e10] at hC10
      obtain ⟨x, hx⟩ : ∃ x, cmpL (l0.map toV) (l1.map toV) = x := ⟨_, rfl⟩
      obtain ⟨y, hy⟩ : ∃ y, cmpL (l1.map toV) (l0.map toV) = y := ⟨_, rfl⟩
      rw [hx] at an rg sm hlt hgt hC01
      rw [hy] at an hC10
      have hsm := same_ev l0 l1 (by have := o0.len; omega)
      have J1 : Ev (fun k => freshetlaw02_RowOrders.j1 k l0 l1 l2 x false) true := by
        cases hs2 : soundL l2
        · refine Ev.step (f := fun _ => some true) (fun k => ?_) (Ev.now _)
          simp only [freshetlaw02_RowOrders.j1]
          rw [if_neg Bool.false_ne_true, hS2, hs2, Option.bind_some, if_neg Bool.false_ne_true]
        · have o2 := rowOk hs2 h2
          have e12 : cmpLS l1 l2 = cmpL (l1.map toV) (l2.map toV) := by unfold cmpLS; rw [hs1, hs2]; rfl
          have e02 : cmpLS l0 l2 = cmpL (l0.map toV) (l2.map toV) := by unfold cmpLS; rw [hs0, hs2]; rfl
          have tr := cmp_trans o0 o1 o2
          rw [hx] at tr
          rw [e12] at hC12
          rw [e02] at hC02
          refine Ev.step (f := fun _ => some true) (fun k => ?_) (Ev.now _)
          simp only [freshetlaw02_RowOrders.j1]
          rw [if_neg Bool.false_ne_true, hS2, hs2, Option.bind_some, if_pos rfl]
          by_cases hx0 : x > 0
          · rw [if_pos hx0]
          · rw [if_neg hx0, hC12, Option.bind_some]
            by_cases hz : cmpL (l1.map toV) (l2.map toV) > 0
            · rw [if_pos hz]
            · rw [if_neg hz, hC02, Option.bind_some, decide_eq_true (tr (by omega) (by omega))]
      have hne : ((x == 0) != decide (l0 = l1)) = false := by
        by_cases h : l0 = l1
        · rw [decide_eq_true h, sm.2 h]; rfl
        · have : x ≠ 0 := fun e => h (sm.1 e)
          rw [decide_eq_false h, beq_eq_false_iff_ne.2 this]; rfl
      refine Ev.congr (f := fun k => freshetlaw02_RowOrders.j0 k l0 l1 l2 (bs (encR (l0.map toV))) (bs (encR (l1.map toV))) false) (fun k => ?_) (Ev.step (f := fun k => (freshetref02_Same.f k l0 l1).bind fun t109 => (freshetlaw02_RowOrders.j1 k l0 l1 l2 x ((x == 0) != t109))) (fun k => ?_) (Ev.bind hsm (Ev.congr (fun k => by rw [hne]) J1)))
      · simp only [freshetlaw02_RowOrders.f, xAwake2.f, Option.bind_some]
        rw [if_pos trivial, hE0, Option.bind_some, hE1, Option.bind_some, hp, hq]
        simp only
        rw [if_pos trivial]; rfl
      · simp only [freshetlaw02_RowOrders.j0]
        rw [if_neg Bool.false_ne_true, hC01, Option.bind_some, hC10, Option.bind_some, if_pos (by rw [w64k (by omega) (by omega)]; omega), hlt, hgt]
        rw [if_neg (by simp), if_neg (by simp)]

theorem walkRowOrders (w : World) (A0 : Option Addr) (c0 : Nat) (L0 : List S56) (hc0 : L0.length ≤ c0) (hr0 : Kd.C k56 w A0 L0.length L0) (hg0 : rngL L0 = true) (A1 : Option Addr) (c1 : Nat) (L1 : List S56) (hc1 : L1.length ≤ c1) (hr1 : Kd.C k56 w A1 L1.length L1) (hg1 : rngL L1 = true)
    (A2 : Option Addr) (c2 : Nat) (L2 : List S56) (hc2 : L2.length ≤ c2) (hr2 : Kd.C k56 w A2 L2.length L2) (hg2 : rngL L2 = true) (ht : RTab w) :
    Calls Tryd.prog 8 #[.slice A0 L0.length c0, .slice A1 L1.length c1, .slice A2 L2.length c2] w fun e w' => e = .returned (.bool true) ∧ Below w.heap.size w w' := by
  obtain ⟨k, hk⟩ := (orders_ev L0 L1 L2 hg0 hg1 hg2).rounds
  exact freshetlaw02_RowOrders.calls k A0 c0 L0 A1 c1 L1 A2 c2 L2 true w hr0 hc0 hr1 hc1 hr2 hc2 ht hk

end Go.Proofs.YthpkjkcfhipjhaaDoor
