/- Plain laws of the order of values. -/
import Derived.Test.YtjnkkjeneomckaaDoorVP1
namespace Go.Proofs.YtjnkkjeneomckaaDoor
set_option linter.unusedVariables false
set_option linter.unusedSimpArgs false
open Go.RowKit

theorem ci_range (a b : Int) : Lib.compareInt a b = -1 ∨ Lib.compareInt a b = 0 ∨ Lib.compareInt a b = 1 := by unfold Lib.compareInt; split; simp; split <;> simp
theorem ci_lt (a b : Int) : Lib.compareInt a b = -1 ↔ a < b := by unfold Lib.compareInt; split; simp [*]; split <;> simp <;> omega
theorem ci_eq (a b : Int) : Lib.compareInt a b = 0 ↔ a = b := by unfold Lib.compareInt; split; simp; omega; split <;> simp <;> omega
theorem ci_gt (a b : Int) : Lib.compareInt a b = 1 ↔ b < a := by unfold Lib.compareInt; split; simp; omega; split <;> simp <;> omega

/-- a compare that is one total order on the things that p holds of -/
structure Ord (α : Type) (p : α → Prop) (c : α → α → Int) : Prop where
  range : ∀ a b, c a b = -1 ∨ c a b = 0 ∨ c a b = 1
  anti : ∀ a b, c a b = -(c b a)
  same : ∀ a b, p a → p b → (c a b = 0 ↔ a = b)
  trans : ∀ a b d, c a b ≤ 0 → c b d ≤ 0 → c a d ≤ 0

theorem ord_int : Ord Int (fun _ => True) Lib.compareInt where
  range := ci_range
  anti a b := by
    have h1 := ci_range a b; have h2 := ci_range b a; have := ci_lt a b; have := ci_lt b a; have := ci_eq a b; have := ci_eq b a; have := ci_gt a b; have := ci_gt b a
    omega
  same a b _ _ := ci_eq a b
  trans a b d h1 h2 := by
    have g1 := ci_range a b; have g2 := ci_range b d; have g3 := ci_range a d; have := ci_lt a b; have := ci_eq a b; have := ci_gt a b; have := ci_lt b d; have := ci_eq b d; have := ci_gt b d; have := ci_lt a d; have := ci_eq a d; have := ci_gt a d
    omega

/-- a compare by a key -/
theorem ord_key {α : Type} {p : α → Prop} (key : α → Int) (inj : ∀ a b, p a → p b → key a = key b → a = b) : Ord α p (fun a b => Lib.compareInt (key a) (key b)) where
  range a b := ci_range _ _
  anti a b := ord_int.anti _ _
  same a b ha hb := ⟨fun h => inj a b ha hb ((ci_eq _ _).1 h), fun h => (ci_eq _ _).2 (by rw [h])⟩
  trans a b d h1 h2 := ord_int.trans _ _ _ h1 h2

theorem u8_lt (a b : UInt8) : a < b ↔ a.toNat < b.toNat := UInt8.lt_iff_toNat_lt
theorem u8_eq (a b : UInt8) : a = b ↔ a.toNat = b.toNat := UInt8.toNat_inj.symm

theorem cb_range : ∀ a b : List UInt8, Lib.compareBytes a b = -1 ∨ Lib.compareBytes a b = 0 ∨ Lib.compareBytes a b = 1
  | [], [] => by simp [Lib.compareBytes]
  | [], _ :: _ => by simp [Lib.compareBytes]
  | _ :: _, [] => by simp [Lib.compareBytes]
  | a :: la, b :: lb => by
    rw [Lib.compareBytes]
    split
    · simp
    · split
      · simp
      · exact cb_range la lb
theorem cb_anti : ∀ a b : List UInt8, Lib.compareBytes a b = -(Lib.compareBytes b a)
  | [], [] => by simp [Lib.compareBytes]
  | [], _ :: _ => by simp [Lib.compareBytes]
  | _ :: _, [] => by simp [Lib.compareBytes]
  | a :: la, b :: lb => by
    have ih := cb_anti la lb
    simp only [Lib.compareBytes, u8_lt]
    by_cases h1 : a.toNat < b.toNat
    · have h2 : ¬ b.toNat < a.toNat := by omega
      simp [h1, h2]
    · by_cases h2 : b.toNat < a.toNat
      · simp [h1, h2]
      · simp [h1, h2, ih]
theorem cb_same : ∀ a b : List UInt8, Lib.compareBytes a b = 0 ↔ a = b
  | [], [] => by simp [Lib.compareBytes]
  | [], _ :: _ => by simp [Lib.compareBytes]
  | _ :: _, [] => by simp [Lib.compareBytes]
  | a :: la, b :: lb => by
    have ih := cb_same la lb
    simp only [Lib.compareBytes, u8_lt, List.cons.injEq]
    by_cases h1 : a.toNat < b.toNat
    · have h2 : a ≠ b := fun h => by rw [u8_eq] at h; omega
      simp [h1, h2]
    · by_cases h2 : b.toNat < a.toNat
      · have h3 : a ≠ b := fun h => by rw [u8_eq] at h; omega
        simp [h1, h2, h3]
      · have h3 : a = b := by rw [u8_eq]; omega
        simp [h1, h2, h3, ih]
theorem cb_trans : ∀ a b c : List UInt8, Lib.compareBytes a b ≤ 0 → Lib.compareBytes b c ≤ 0 → Lib.compareBytes a c ≤ 0
  | [], _, [], _, _ => by simp [Lib.compareBytes]
  | [], _, _ :: _, _, _ => by simp [Lib.compareBytes]
  | _ :: _, [], _, h, _ => by simp [Lib.compareBytes] at h
  | _ :: _, _ :: _, [], _, h => by simp [Lib.compareBytes] at h
  | a :: la, b :: lb, c :: lc, h1, h2 => by
    have ih := cb_trans la lb lc
    simp only [Lib.compareBytes, u8_lt] at h1 h2 ⊢
    by_cases g1 : a.toNat < b.toNat
    · by_cases g2 : b.toNat < c.toNat
      · rw [if_pos (by omega)]; decide
      · by_cases g3 : c.toNat < b.toNat
        · rw [if_neg g2, if_pos g3] at h2; omega
        · rw [if_pos (by omega)]; decide
    · by_cases g1' : b.toNat < a.toNat
      · rw [if_neg g1, if_pos g1'] at h1; omega
      · by_cases g2 : b.toNat < c.toNat
        · rw [if_pos (by omega)]; decide
        · by_cases g3 : c.toNat < b.toNat
          · rw [if_neg g2, if_pos g3] at h2; omega
          · rw [if_neg (by omega), if_neg (by omega)]
            rw [if_neg g1, if_neg g1'] at h1
            rw [if_neg g2, if_neg g3] at h2
            exact ih h1 h2

theorem ord_bytes : Ord ByteArray (fun _ => True) (fun a b => Lib.compareBytes a.data.toList b.data.toList) where
  range a b := cb_range _ _
  anti a b := cb_anti _ _
  same a b _ _ := by
    rw [cb_same]
    constructor
    · intro h
      have : a.data = b.data := Array.toList_inj.1 h
      cases a; cases b; cases this; rfl
    · rintro rfl; rfl
  trans a b d h1 h2 := cb_trans _ _ _ h1 h2

/-- the place of a float among all, a NaN the highest -/
def fkey (x : Nat) : Int := if fNaN x then 9223372036854775808 else sr x

theorem int_cmp (a b : Int) : compare a b = if a < b then .lt else if a = b then .eq else .gt := rfl
theorem rung_lt (x : Nat) : rungW x < 9223372036854775808 := Nat.mod_lt _ (by decide)
theorem sr_lt (x : Nat) : -9223372036854775808 < sr x ∧ sr x < 9223372036854775808 := by
  have := rung_lt x
  unfold sr; split <;> omega

theorem cmpF_key (x y : Nat) : cmpF x y = Lib.compareInt (fkey x) (fkey y) := by
  have lx := sr_lt x
  have ly := sr_lt y
  unfold cmpF fkey
  cases hx : fNaN x <;> cases hy : fNaN y
  · have gx : rungW x ≤ 9218868437227405312 := by have := nan_rung x; rw [hx] at this; simpa using this.symm
    have gy : rungW y ≤ 9218868437227405312 := by have := nan_rung y; rw [hy] at this; simpa using this.symm
    have ho : FloatKind.f64.format.order x y = some (compare (sr x) (sr y)) := order_sr gx gy
    rw [ho, int_cmp]
    simp only [Bool.false_and, Bool.false_eq_true, if_false, Lib.compareInt]
    by_cases h1 : sr x < sr y
    · simp [h1]
    · by_cases h2 : sr x = sr y
      · simp [h2]
      · have h3 : sr x > sr y := by omega
        simp [h1, h2, h3]
  · simp [Lib.compareInt]; omega
  · simp [Lib.compareInt]; omega
  · simp [Lib.compareInt]

theorem fkey_inj {x y : Int} (ux : 0 ≤ x ∧ x < 18446744073709551616) (uy : 0 ≤ y ∧ y < 18446744073709551616) (px : plainI x = x) (py : plainI y = y) (h : fkey x.toNat = fkey y.toNat) : x = y := by
  have lx := sr_lt x.toNat
  have ly := sr_lt y.toNat
  have cx : ∀ x : Int, 0 ≤ x → fNaN x.toNat = fNaN x := fun x hx => by rw [show ((x.toNat : Nat) : Int) = x by omega]
  unfold fkey at h
  rw [cx x ux.1, cx y uy.1] at h
  cases hx : fNaN x <;> cases hy : fNaN y
  · rw [hx, hy] at h
    simp only [Bool.false_eq_true, if_false] at h
    have nx : x ≠ 9223372036854775808 := fun e => by subst e; revert px; decide +kernel
    have ny : y ≠ 9223372036854775808 := fun e => by subst e; revert py; decide +kernel
    unfold sr negW rungW at h
    have hx2 : x.toNat / 9223372036854775808 = 0 ∨ x.toNat / 9223372036854775808 = 1 := by omega
    have hy2 : y.toNat / 9223372036854775808 = 0 ∨ y.toNat / 9223372036854775808 = 1 := by omega
    rcases hx2 with e1 | e1 <;> rcases hy2 with e2 | e2 <;> rw [e1, e2] at h <;> simp at h <;> omega
  · rw [hx, hy] at h; simp at h; omega
  · rw [hx, hy] at h; simp at h; omega
  · simp only [plainI, hx, if_true] at px
    simp only [plainI, hy, if_true] at py
    omega

theorem ord_float : Ord Int (fun f => (0 ≤ f ∧ f < 18446744073709551616) ∧ plainI f = f) (fun x y => cmpF x.toNat y.toNat) := by
  have h := ord_key (p := fun f : Int => (0 ≤ f ∧ f < 18446744073709551616) ∧ plainI f = f) (fun x => fkey x.toNat) (fun a b ha hb he => fkey_inj ha.1 hb.1 ha.2 hb.2 he)
  have e : (fun x y : Int => cmpF x.toNat y.toNat) = fun a b => Lib.compareInt (fkey a.toNat) (fkey b.toNat) := by funext x y; exact cmpF_key _ _
  rw [e]; exact h

/-- a value of the language -/
def sV64 (x : V) : Prop := sV x = true ∧ 0 ≤ x.f ∧ x.f < 18446744073709551616
def cV (x y : V) : Int := cmpV x.k x.n x.f x.t y.k y.n y.f y.t

theorem cV_eq (x y : V) (hx : sV x = true) (hy : sV y = true) : cV x y = if x.k = y.k then (if x.k = 3 then cmpF x.f.toNat y.f.toNat else if x.k = 4 then Lib.compareBytes x.t.data.toList y.t.data.toList else Lib.compareInt x.n y.n) else Lib.compareInt x.k y.k := by
  unfold cV cmpV
  have hx' : soundV x.k x.n x.f x.t = true := hx
  have hy' : soundV y.k y.n y.f y.t = true := hy
  rw [hx', hy']
  by_cases h : x.k = y.k
  · simp [h]
  · simp [h]

theorem cV_range (x y : V) (hx : sV x = true) (hy : sV y = true) : cV x y = -1 ∨ cV x y = 0 ∨ cV x y = 1 := by
  rw [cV_eq x y hx hy]
  split
  · split
    · exact ord_float.range _ _
    · split
      · exact ord_bytes.range _ _
      · exact ci_range _ _
  · exact ci_range _ _
theorem cV_anti (x y : V) (hx : sV x = true) (hy : sV y = true) : cV x y = -(cV y x) := by
  rw [cV_eq x y hx hy, cV_eq y x hy hx]
  by_cases h : x.k = y.k
  · rw [if_pos h, if_pos h.symm, ← h]
    split
    · exact ord_float.anti _ _
    · split
      · exact ord_bytes.anti _ _
      · exact ord_int.anti _ _
  · rw [if_neg h, if_neg (fun e => h e.symm)]; exact ord_int.anti _ _
theorem cV_same (x y : V) (hx : sV64 x) (hy : sV64 y) : cV x y = 0 ↔ x = y := by
  rw [cV_eq x y hx.1 hy.1]
  have sx := sound_cases hx.1
  have sy := sound_cases hy.1
  obtain ⟨k, n, f, t⟩ := x
  obtain ⟨k', n', f', t'⟩ := y
  simp only [V.mk.injEq] at *
  by_cases h : k = k'
  · subst h
    rw [if_pos rfl]
    split
    · rename_i h3; subst h3
      rcases sx with ⟨a, _⟩ | ⟨a, _⟩ | ⟨a, _⟩ | ⟨_, rfl, p, rfl⟩ | ⟨a, _⟩ <;> first | omega | skip
      rcases sy with ⟨a, _⟩ | ⟨a, _⟩ | ⟨a, _⟩ | ⟨_, rfl, p', rfl⟩ | ⟨a, _⟩ <;> first | omega | skip
      rw [ord_float.same _ _ ⟨hx.2, p⟩ ⟨hy.2, p'⟩]; simp
    · split
      · rename_i h4; subst h4
        rcases sx with ⟨a, _⟩ | ⟨a, _⟩ | ⟨a, _⟩ | ⟨a, _⟩ | ⟨_, rfl, rfl, _⟩ <;> first | omega | skip
        rcases sy with ⟨a, _⟩ | ⟨a, _⟩ | ⟨a, _⟩ | ⟨a, _⟩ | ⟨_, rfl, rfl, _⟩ <;> first | omega | skip
        rw [ord_bytes.same _ _ trivial trivial]; simp
      · rw [ci_eq]
        have ft : f = 0 ∧ t = ⟨#[]⟩ := by
          rcases sx with ⟨_, _, a, b⟩ | ⟨_, _, a, b⟩ | ⟨_, a, b⟩ | ⟨a, _⟩ | ⟨a, _⟩
          · exact ⟨a, b⟩
          · exact ⟨a, b⟩
          · exact ⟨a, b⟩
          · omega
          · omega
        have ft' : f' = 0 ∧ t' = ⟨#[]⟩ := by
          rcases sy with ⟨_, _, a, b⟩ | ⟨_, _, a, b⟩ | ⟨_, a, b⟩ | ⟨a, _⟩ | ⟨a, _⟩
          · exact ⟨a, b⟩
          · exact ⟨a, b⟩
          · exact ⟨a, b⟩
          · omega
          · omega
        simp [ft.1, ft.2, ft'.1, ft'.2]
  · rw [if_neg h, ci_eq]; simp [h]
theorem cV_trans (x y z : V) (hx : sV x = true) (hy : sV y = true) (hz : sV z = true) (h1 : cV x y ≤ 0) (h2 : cV y z ≤ 0) : cV x z ≤ 0 := by
  rw [cV_eq _ _ hx hy] at h1
  rw [cV_eq _ _ hy hz] at h2
  rw [cV_eq _ _ hx hz]
  have r1 := ci_range x.k y.k
  have r2 := ci_range y.k z.k
  have r3 := ci_range x.k z.k
  have a1 := ci_gt x.k y.k
  have a2 := ci_gt y.k z.k
  have a3 := ci_gt x.k z.k
  have hle : ∀ a b : Int, Lib.compareInt a b ≤ 0 ↔ a ≤ b := fun a b => by
    have := ci_range a b; have := ci_gt a b; omega
  by_cases e1 : x.k = y.k
  · rw [if_pos e1] at h1
    by_cases e2 : y.k = z.k
    · rw [if_pos e2] at h2
      rw [if_pos (e1.trans e2)]
      rw [← e1] at h2
      by_cases c3 : x.k = 3
      · rw [if_pos c3] at h1 h2 ⊢; exact ord_float.trans _ _ _ h1 h2
      · rw [if_neg c3] at h1 h2 ⊢
        by_cases c4 : x.k = 4
        · rw [if_pos c4] at h1 h2 ⊢; exact ord_bytes.trans _ _ _ h1 h2
        · rw [if_neg c4] at h1 h2 ⊢; exact ord_int.trans _ _ _ h1 h2
    · rw [if_neg e2] at h2
      rw [if_neg (fun e => e2 (e1.symm.trans e)), e1]; exact h2
  · rw [if_neg e1] at h1
    by_cases e2 : y.k = z.k
    · rw [if_neg (fun e => e1 (e.trans e2.symm)), ← e2]; exact h1
    · rw [if_neg e2] at h2
      rw [hle] at h1 h2
      rw [if_neg (by omega), hle]; omega

end Go.Proofs.YtjnkkjeneomckaaDoor
