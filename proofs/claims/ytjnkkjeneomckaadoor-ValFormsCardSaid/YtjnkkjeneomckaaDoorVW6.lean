/- The walk of 'ValOrders': the document's order is the program's. -/
import Derived.Test.YtjnkkjeneomckaaDoorVR2
import Derived.Test.YtjnkkjeneomckaaDoorVS
namespace Go.Proofs.YtjnkkjeneomckaaDoor
set_option linter.unusedVariables false
set_option linter.unusedSimpArgs false
open Go.RowKit

theorem ci_congr {a b c d : Int} (h1 : a < b ↔ c < d) (h2 : b < a ↔ d < c) : Lib.compareInt a b = Lib.compareInt c d := by
  unfold Lib.compareInt
  by_cases x : a < b
  · rw [if_pos x, if_pos (h1.1 x)]
  · rw [if_neg x, if_neg (fun y => x (h1.2 y))]
    by_cases z : b < a
    · rw [if_pos z, if_pos (h2.1 z)]
    · rw [if_neg z, if_neg (fun y => z (h2.2 y))]

theorem fkey_lt {x y : Int} (ux : 0 ≤ x ∧ x < 18446744073709551616) (uy : 0 ≤ y ∧ y < 18446744073709551616) (px : plainI x = x) (py : plainI y = y) : fkey x.toNat < fkey y.toNat ↔ rKey x < rKey y := by
  have lx := sr_lt x.toNat
  have ly := sr_lt y.toNat
  have cx : ∀ x : Int, 0 ≤ x → fNaN x.toNat = fNaN x := fun x hx => by rw [show ((x.toNat : Nat) : Int) = x by omega]
  have nanv : ∀ z : Int, fNaN z = true → plainI z = z → z = 9221120237041090560 := fun z h p => by simp only [plainI, h, if_true] at p; exact p.symm
  have fin : ∀ z : Int, 0 ≤ z → z < 18446744073709551616 → fNaN z = false → z ≤ 9218868437227405312 ∨ (9223372036854775808 ≤ z ∧ z ≤ 18442240474082181120) := fun z h0 h1 h => by
    have := fNaN_iff z
    rw [h] at this
    have := this.symm
    simp only [decide_eq_false_iff_not] at this
    omega
  unfold fkey
  rw [cx x ux.1, cx y uy.1]
  cases hx : fNaN x <;> cases hy : fNaN y
  · simp only [Bool.false_eq_true, if_false]
    have nx : x ≠ 9223372036854775808 := fun e => by subst e; revert px; decide +kernel
    have ny : y ≠ 9223372036854775808 := fun e => by subst e; revert py; decide +kernel
    have hx2 : x.toNat / 9223372036854775808 = 0 ∨ x.toNat / 9223372036854775808 = 1 := by omega
    have hy2 : y.toNat / 9223372036854775808 = 0 ∨ y.toNat / 9223372036854775808 = 1 := by omega
    unfold sr negW rungW rKey
    rcases hx2 with e1 | e1 <;> rcases hy2 with e2 | e2 <;> rw [e1, e2] <;> simp <;> split <;> split <;> omega
  · have e := nanv y hy py
    have := fin x ux.1 ux.2 hx
    simp only [Bool.false_eq_true, if_false, if_true]
    have r : rKey y = 18444492273895866368 := by subst e; decide
    rw [r]
    have : rKey x < 18444492273895866368 := by unfold rKey; split <;> omega
    exact ⟨fun _ => this, fun _ => lx.2⟩
  · have e := nanv x hx px
    have := fin y uy.1 uy.2 hy
    simp only [Bool.false_eq_true, if_false, if_true]
    have r : rKey x = 18444492273895866368 := by subst e; decide
    rw [r]
    have : ¬ 18444492273895866368 < rKey y := by unfold rKey; split <;> omega
    exact ⟨fun h => by omega, fun h => absurd h this⟩
  · rw [nanv x hx px, nanv y hy py]
    simp

theorem rCmp_eq (k n f : Int) (t : ByteArray) (k' n' f' : Int) (t' : ByteArray) (hf : U64 f) (hf' : U64 f') : rCmp k n f t k' n' f' t' = cmpV k n f t k' n' f' t' := by
  unfold rCmp cmpV
  cases h1 : soundV k n f t <;> cases h2 : soundV k' n' f' t'
  · rfl
  · rfl
  · rfl
  · simp only [Bool.not_true, Bool.or_self, Bool.false_eq_true, if_false]
    cases hk : (k != k') with
    | true => rfl
    | false =>
      simp only [Bool.false_eq_true, if_false]
      obtain rfl : k = k' := by simpa using hk
      cases h3 : (k == 3) with
      | false => rfl
      | true =>
        simp only [if_true]
        obtain rfl : k = 3 := by simpa using h3
        have p : plainI f = f := by simp [soundV] at h1; exact h1.2
        have p' : plainI f' = f' := by simp [soundV] at h2; exact h2.2
        rw [cmpF_key]
        exact (ci_congr (fkey_lt hf hf' p p') (fkey_lt hf' hf p' p)).symm

theorem rCompare_v (k n f : Int) (t : ByteArray) (k' n' f' : Int) (t' : ByteArray) (w : World) (hf : U64 f) (hf' : U64 f') : Calls Tryd.prog 24 #[.agg #[.int .i64 k, .int .i64 n, .int .u64 f, .string t], .agg #[.int .i64 k', .int .i64 n', .int .u64 f', .string t']] w fun e w' => e = .returned (.int .i64 (cmpV k n f t k' n' f' t')) ∧ Below w.heap.size w w' := by
  rw [← rCmp_eq k n f t k' n' f' t' hf hf']; exact rCompare_c k n f t k' n' f' t' w hf hf'

/-- a value of the language in a block of its own -/
def VIn (w : World) (b : Nat) (k n f : Int) (t : ByteArray) : Prop :=
  w.cell? ⟨b, 0, none⟩ = some (.int .i64 k) ∧ w.cell? ⟨b, 1, none⟩ = some (.int .i64 n) ∧ w.cell? ⟨b, 2, none⟩ = some (.int .u64 f) ∧ w.cell? ⟨b, 3, none⟩ = some (.string t)
theorem VIn.keep {w w' : World} {b : Nat} {k n f : Int} {t : ByteArray} (h : VIn w b k n f t) (hb : Below w.heap.size w w') : VIn w' b k n f t := by
  obtain ⟨h0, h1, h2, h3⟩ := h
  have hl := World.block_lt_of_cell? w _ h0
  obtain ⟨hc, _⟩ := bcell hb
  exact ⟨by rw [hc _ _ hl]; exact h0, by rw [hc _ _ hl]; exact h1, by rw [hc _ _ hl]; exact h2, by rw [hc _ _ hl]; exact h3⟩
theorem region_q {P : Program} {C : World → Prop} {id : Nat} {Q : Exit → Act → World → Prop} {a : Act} {w : World} {l : List Oper} (hm : P.follows .mixedOrders = true) (hB : Region.lexB .any l.toArray = true) (hC : C { w with drawn := w.drawn + 1 })
    (h : wpQuiet P l.toArray C (fun a' => ∀ w', C w' → Q .normal a' w') l a) : (Code.region id l.toArray true).wp P Q a w :=
  wp_region_quiet hm hB hC (by simpa using h)
/-- the class of worlds in which the last test is reckoned -/
def Cl2 (w : World) (k n f : Int) (t : ByteArray) (k' n' f' : Int) (t' : ByteArray) (w' : World) : Prop :=
  Below w.heap.size w w' ∧ VIn w' w.heap.size k n f t ∧ VIn w' (w.heap.size + 1) k' n' f' t'
theorem Cl2.keep {w : World} {k n f : Int} {t : ByteArray} {k' n' f' : Int} {t' : ByteArray} {w' w'' : World} (h : Cl2 w k n f t k' n' f' t' w') (hb : Below w'.heap.size w' w'') : Cl2 w k n f t k' n' f' t' w'' :=
  ⟨h.1.trans (hb.mono h.1.size), h.2.1.keep hb, h.2.2.keep hb⟩

set_option maxRecDepth 100000 in
set_option maxHeartbeats 2000000 in
theorem orders_w (k n f : Int) (t : ByteArray) (k' n' f' : Int) (t' : ByteArray) (x : Int) (w : World) (ht : Tab w)
    (c1 : ∀ w, Calls Tryd.prog 23 #[.agg #[.int .i64 k, .int .i64 n, .int .u64 f, .string t], .agg #[.int .i64 k', .int .i64 n', .int .u64 f', .string t']] w fun e w' => e = .returned (.int .i64 x) ∧ Below w.heap.size w w')
    (c2 : ∀ w, Calls Tryd.prog 24 #[.agg #[.int .i64 k, .int .i64 n, .int .u64 f, .string t], .agg #[.int .i64 k', .int .i64 n', .int .u64 f', .string t']] w fun e w' => e = .returned (.int .i64 x) ∧ Below w.heap.size w w') :
    Calls Tryd.prog 4 #[.agg #[.int .i64 k, .int .i64 n, .int .u64 f, .string t], .agg #[.int .i64 k', .int .i64 n', .int .u64 f', .string t']] w fun e w' => e = .returned (.bool true) ∧ Below w.heap.size w w' := by
  have C1 := Lib.hid c1; have C2 := Lib.hid c2; clear c1 c2
  go_enter Tryd.func4, Tryd.ntmps4
  go_wp2_with (first | (go_at_call 10; (fail_if_success (have := w1)); ((with_reducible refine (awake_c _ (ht.below (by repeat (first | (with_reducible exact Below.refl _ _) | (with_reducible refine below_al ?_ _) | (with_reducible refine below_drewN ?_ _) | (with_reducible refine Below.drew ?_) | (with_reducible refine below_via (by assumption) ?_) | (with_reducible refine below_sc ?_ ?_ _; · (first | (simp; done) | (simp; omega) | omega)))))).mono ?_); rintro e w1 ⟨rfl, hb1⟩; (try (replace hb1 := below_undrew hb1)); (try (replace hb1 := below_undrewN hb1)); obtain ⟨hc1, hf1⟩ := bcell hb1; (try (have hz0_1 : w.heap.size < w1.heap.size := (by have := hb1.size; (try simp at this); omega))); (try (have hz1_1 : w.heap.size + 1 < w1.heap.size := (by have := hb1.size; (try simp at this); omega))))))
  have hC : Cl2 w k n f t k' n' f' t' w1.drew := ⟨(by repeat (first | (with_reducible exact Below.refl _ _) | (with_reducible refine below_al ?_ _) | (with_reducible refine below_drewN ?_ _) | (with_reducible refine Below.drew ?_) | (with_reducible refine below_via (by assumption) ?_) | (with_reducible refine below_sc ?_ ?_ _; · (first | (simp; done) | (simp; omega) | omega)))), ⟨by go_simp, by go_simp, by go_simp, by go_simp⟩, ⟨by go_simp, by go_simp, by go_simp, by go_simp⟩⟩
  refine region_q (C := Cl2 w k n f t k' n' f' t') (by kernel_rfl) (by kernel_rfl) hC ?_
  clear hC hb1 hc1 hf1
  repeat (first
    | go_big_quiet_skip
    | (go_big_quiet_want; first
        | (go_big_quiet_op; go_big_quiet_on)
        | (apply Exists.intro
           refine ⟨fun w' hw' => ?_, ?_⟩
           · (have HC := Lib.hid hw'
              obtain ⟨hB, ⟨x0, x1, x2, x3⟩, ⟨y0, y1, y2, y3⟩⟩ := hw'
              go_simp
              first
                | exact rfl
                | ((with_reducible refine (C1.out _).mono ?_); rintro e w'' ⟨rfl, hb⟩; exact ⟨rfl, HC.out.keep hb⟩)
                | ((with_reducible refine (C2.out _).mono ?_); rintro e w'' ⟨rfl, hb⟩; exact ⟨rfl, HC.out.keep hb⟩))
           go_simp
           go_big_quiet_on)))
  refine wpQuiet_nil ?_
  intro w' hw'
  go_wp2_with fail
  go_ret
  exact ⟨by simp, hw'.1⟩

theorem walkValOrders (k n f : Int) (t : ByteArray) (k' n' f' : Int) (t' : ByteArray)
    (wk : (Lit.int .i64 k).wf = true) (wn : (Lit.int .i64 n).wf = true) (wf : (Lit.int .u64 f).wf = true) (wt : t.size ≤ maxLen) (wk' : (Lit.int .i64 k').wf = true) (wn' : (Lit.int .i64 n').wf = true) (wf' : (Lit.int .u64 f').wf = true) (wt' : t'.size ≤ maxLen) (w : World) (ht : Tab w) :
    Calls Tryd.prog 4 #[.agg #[.int .i64 k, .int .i64 n, .int .u64 f, .string t], .agg #[.int .i64 k', .int .i64 n', .int .u64 f', .string t']] w fun e w' => e = .returned (.bool true) ∧ Below w.heap.size w w' := by
  have i64 : ∀ {n : Int}, (Lit.int .i64 n).wf = true → I64 n := fun h => by simp only [Lit.wf, Bool.and_eq_true, decide_eq_true_eq] at h; exact h
  have u64 : ∀ {n : Int}, (Lit.int .u64 n).wf = true → U64 n := fun {n} h => by
    simp only [Lit.wf, Bool.and_eq_true, decide_eq_true_eq] at h
    have h1 : (0 : Int) ≤ n := h.1
    have h2 : n ≤ 18446744073709551615 := h.2
    exact ⟨h1, by omega⟩
  exact orders_w k n f t k' n' f' t' (cmpV k n f t k' n' f' t') w ht (fun w => compare_c _ _ _ _ _ _ _ _ w (i64 wn) (i64 wn')) (fun w => rCompare_v _ _ _ _ _ _ _ _ w (u64 wf) (u64 wf'))

end Go.Proofs.YtjnkkjeneomckaaDoor
