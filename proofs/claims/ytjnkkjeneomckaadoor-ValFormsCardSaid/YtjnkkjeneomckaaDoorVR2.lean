/- The document's order of values. -/
import Derived.Test.YtjnkkjeneomckaaDoorVR1
namespace Go.Proofs.YtjnkkjeneomckaaDoor
set_option linter.unusedVariables false
set_option linter.unusedSimpArgs false
open Go.RowKit

theorem rKey_q (b : Int) (w : World) (h : U64 b) : Calls Tryd.prog 42 #[.int .u64 b] w fun e w' => e = .returned (.int .u64 (rKey b)) ∧ w' = w := (rKey_c b w h).mono fun _ _ ⟨a, b⟩ => ⟨a, b.symm⟩
theorem rSign_q (x y : Bool) (w : World) : Calls Tryd.prog 41 #[.bool x, .bool y] w fun e w' => e = .returned (.int .i64 (if x then -1 else if y then 1 else 0)) ∧ w' = w := (rSign_c x y w).mono fun _ _ ⟨a, b⟩ => ⟨a, b.symm⟩

/-- the document's order -/
def rCmp (k n f : Int) (t : ByteArray) (k' n' f' : Int) (t' : ByteArray) : Int :=
  if !soundV k n f t || !soundV k' n' f' t' then 0
  else if k != k' then Lib.compareInt k k'
  else if k == 3 then Lib.compareInt (rKey f) (rKey f')
  else if k == 4 then Lib.compareBytes t.data.toList t'.data.toList
  else Lib.compareInt n n'

theorem sign_ci (x y : Int) : (if decide (x < y) then -1 else if decide (y < x) then 1 else 0 : Int) = Lib.compareInt x y := by
  unfold Lib.compareInt; simp

theorem less_cb : ∀ a b : List UInt8, Op.bytesLess a b = decide (Lib.compareBytes a b = -1)
  | [], [] => by simp [Op.bytesLess, Lib.compareBytes]
  | [], _ :: _ => by simp [Op.bytesLess, Lib.compareBytes]
  | _ :: _, [] => by simp [Op.bytesLess, Lib.compareBytes]
  | a :: la, b :: lb => by
    have ih := less_cb la lb
    simp only [Op.bytesLess, Lib.compareBytes, ih, u8_lt]
    by_cases h1 : a.toNat < b.toNat
    · have : a < b := (u8_lt a b).2 h1
      simp [h1, this]
    · have n1 : ¬ a < b := fun h => h1 ((u8_lt a b).1 h)
      by_cases h2 : b.toNat < a.toNat
      · have h3 : a ≠ b := fun h => by rw [u8_eq] at h; omega
        simp [h1, h2, n1, h3]
      · have h3 : a = b := by rw [u8_eq]; omega
        subst h3; simp [h1, n1]
theorem text_sign (t t' : ByteArray) : (if Op.bytesLess t.toList t'.toList then -1 else if !(Op.bytesLess t.toList t'.toList || t.toList == t'.toList) then 1 else 0 : Int) = Lib.compareBytes t.data.toList t'.data.toList := by
  rw [ByteArray.toList_eq, ByteArray.toList_eq, less_cb]
  have h1 := cb_range t.data.toList t'.data.toList
  have h2 := cb_same t.data.toList t'.data.toList
  generalize Lib.compareBytes t.data.toList t'.data.toList = c at *
  rcases h1 with rfl | rfl | rfl
  · simp
  · have := h2.1 rfl; simp [this]
  · have h3 : (t.data.toList == t'.data.toList) = false := by rw [beq_eq_false_iff_ne]; intro h; have := h2.2 h; omega
    rw [h3]; simp

theorem rSign_ci (x y : Int) (w : World) : Calls Tryd.prog 41 #[.bool (decide (x < y)), .bool (decide (y < x))] w fun e w' => e = .returned (.int .i64 (Lib.compareInt x y)) ∧ w = w' := by
  have := rSign_c (decide (x < y)) (decide (y < x)) w
  rw [sign_ci] at this; exact this
theorem rSign_tx (t t' : ByteArray) (w : World) : Calls Tryd.prog 41 #[.bool (Op.bytesLess t.toList t'.toList), .bool !(Op.bytesLess t.toList t'.toList || t.toList == t'.toList)] w fun e w' => e = .returned (.int .i64 (Lib.compareBytes t.data.toList t'.data.toList)) ∧ w = w' := by
  have := rSign_c (Op.bytesLess t.toList t'.toList) (!(Op.bytesLess t.toList t'.toList || t.toList == t'.toList)) w
  rw [text_sign] at this; exact this


theorem rSign_tx' (t t' : ByteArray) (w : World) : Calls Tryd.prog 41 #[.bool (Op.bytesLess t.toList t'.toList), .bool (!Op.bytesLess t.toList t'.toList && !t.toList == t'.toList)] w fun e w' => e = .returned (.int .i64 (Lib.compareBytes t.data.toList t'.data.toList)) ∧ w = w' := by
  rw [← Bool.not_or]; exact rSign_tx t t' w

set_option maxRecDepth 100000 in
set_option maxHeartbeats 1000000 in
theorem rCompare_0 (k n f : Int) (t : ByteArray) (k' n' f' : Int) (t' : ByteArray) (w : World) (b1 b2 : Bool) (hb : (b1 && b2) = false)
    (s1 : ∀ w, Calls Tryd.prog 14 #[.agg #[.int .i64 k, .int .i64 n, .int .u64 f, .string t]] w fun e w' => e = .returned (.bool b1) ∧ Below w.heap.size w w')
    (s2 : ∀ w, Calls Tryd.prog 14 #[.agg #[.int .i64 k', .int .i64 n', .int .u64 f', .string t']] w fun e w' => e = .returned (.bool b2) ∧ Below w.heap.size w w') :
    Calls Tryd.prog 24 #[.agg #[.int .i64 k, .int .i64 n, .int .u64 f, .string t], .agg #[.int .i64 k', .int .i64 n', .int .u64 f', .string t']] w fun e w' => e = .returned (.int .i64 0) ∧ Below w.heap.size w w' := by
  have S1 := Lib.hid s1; have S2 := Lib.hid s2; clear s1 s2
  cases b1 <;> cases b2
  all_goals try (exfalso; simp at hb; done)
  all_goals clear hb
  all_goals
    go_enter Tryd.func24, Tryd.ntmps24
    go_wp2_with (first | (go_at_call 14; (fail_if_success (have := w1)); ((with_reducible refine (S1.out _).mono ?_); rintro e w1 ⟨rfl, hb1⟩; (try (replace hb1 := below_undrew hb1)); (try (replace hb1 := below_undrewN hb1)); obtain ⟨hc1, hf1⟩ := bcell hb1; (try (have hz0_1 : w.heap.size < w1.heap.size := (by have := hb1.size; (try simp at this); omega))); (try (have hz1_1 : w.heap.size + 1 < w1.heap.size := (by have := hb1.size; (try simp at this); omega))))) | (go_at_call 14; (fail_if_success (have := w1)); ((with_reducible refine (S2.out _).mono ?_); rintro e w1 ⟨rfl, hb1⟩; (try (replace hb1 := below_undrew hb1)); (try (replace hb1 := below_undrewN hb1)); obtain ⟨hc1, hf1⟩ := bcell hb1; (try (have hz0_1 : w.heap.size < w1.heap.size := (by have := hb1.size; (try simp at this); omega))); (try (have hz1_1 : w.heap.size + 1 < w1.heap.size := (by have := hb1.size; (try simp at this); omega))))) | (go_at_call 14; (fail_if_success (have := w2)); ((with_reducible refine (S1.out _).mono ?_); rintro e w2 ⟨rfl, hb2⟩; (try (replace hb2 := below_undrew hb2)); (try (replace hb2 := below_undrewN hb2)); obtain ⟨hc2, hf2⟩ := bcell hb2; (try (have hz0_2 : w.heap.size < w2.heap.size := (by have := hb2.size; (try simp at this); omega))); (try (have hz1_2 : w.heap.size + 1 < w2.heap.size := (by have := hb2.size; (try simp at this); omega))); (try (have hz_1_2 : w1.heap.size < w2.heap.size := (by have := hb2.size; (try simp at this); omega))))) | (go_at_call 14; (fail_if_success (have := w2)); ((with_reducible refine (S2.out _).mono ?_); rintro e w2 ⟨rfl, hb2⟩; (try (replace hb2 := below_undrew hb2)); (try (replace hb2 := below_undrewN hb2)); obtain ⟨hc2, hf2⟩ := bcell hb2; (try (have hz0_2 : w.heap.size < w2.heap.size := (by have := hb2.size; (try simp at this); omega))); (try (have hz1_2 : w.heap.size + 1 < w2.heap.size := (by have := hb2.size; (try simp at this); omega))); (try (have hz_1_2 : w1.heap.size < w2.heap.size := (by have := hb2.size; (try simp at this); omega))))))
    go_ret; exact ⟨rfl, (by repeat (first | (with_reducible exact Below.refl _ _) | (with_reducible refine below_al ?_ _) | (with_reducible refine below_drewN ?_ _) | (with_reducible refine Below.drew ?_) | (with_reducible refine below_via (by assumption) ?_) | (with_reducible refine below_sc ?_ ?_ _; · (first | (simp; done) | (simp; omega) | omega))))⟩

set_option maxRecDepth 100000 in
set_option maxHeartbeats 1000000 in
theorem rCompare_k (k n f : Int) (t : ByteArray) (k' n' f' : Int) (t' : ByteArray) (w : World) (hk : (k == k') = false)
    (s1 : ∀ w, Calls Tryd.prog 14 #[.agg #[.int .i64 k, .int .i64 n, .int .u64 f, .string t]] w fun e w' => e = .returned (.bool true) ∧ Below w.heap.size w w')
    (s2 : ∀ w, Calls Tryd.prog 14 #[.agg #[.int .i64 k', .int .i64 n', .int .u64 f', .string t']] w fun e w' => e = .returned (.bool true) ∧ Below w.heap.size w w') :
    Calls Tryd.prog 24 #[.agg #[.int .i64 k, .int .i64 n, .int .u64 f, .string t], .agg #[.int .i64 k', .int .i64 n', .int .u64 f', .string t']] w fun e w' => e = .returned (.int .i64 (Lib.compareInt k k')) ∧ Below w.heap.size w w' := by
  have S1 := Lib.hid s1; have S2 := Lib.hid s2; clear s1 s2
  go_enter Tryd.func24, Tryd.ntmps24
  go_wp2_with (first | (first | (go_at_call 14; (fail_if_success (have := w1)); ((with_reducible refine (S1.out _).mono ?_); rintro e w1 ⟨rfl, hb1⟩; (try (replace hb1 := below_undrew hb1)); (try (replace hb1 := below_undrewN hb1)); obtain ⟨hc1, hf1⟩ := bcell hb1; (try (have hz0_1 : w.heap.size < w1.heap.size := (by have := hb1.size; (try simp at this); omega))); (try (have hz1_1 : w.heap.size + 1 < w1.heap.size := (by have := hb1.size; (try simp at this); omega))))) | (go_at_call 14; (fail_if_success (have := w1)); ((with_reducible refine (S2.out _).mono ?_); rintro e w1 ⟨rfl, hb1⟩; (try (replace hb1 := below_undrew hb1)); (try (replace hb1 := below_undrewN hb1)); obtain ⟨hc1, hf1⟩ := bcell hb1; (try (have hz0_1 : w.heap.size < w1.heap.size := (by have := hb1.size; (try simp at this); omega))); (try (have hz1_1 : w.heap.size + 1 < w1.heap.size := (by have := hb1.size; (try simp at this); omega))))) | (go_at_call 14; (fail_if_success (have := w2)); ((with_reducible refine (S1.out _).mono ?_); rintro e w2 ⟨rfl, hb2⟩; (try (replace hb2 := below_undrew hb2)); (try (replace hb2 := below_undrewN hb2)); obtain ⟨hc2, hf2⟩ := bcell hb2; (try (have hz0_2 : w.heap.size < w2.heap.size := (by have := hb2.size; (try simp at this); omega))); (try (have hz1_2 : w.heap.size + 1 < w2.heap.size := (by have := hb2.size; (try simp at this); omega))); (try (have hz_1_2 : w1.heap.size < w2.heap.size := (by have := hb2.size; (try simp at this); omega))))) | (go_at_call 14; (fail_if_success (have := w2)); ((with_reducible refine (S2.out _).mono ?_); rintro e w2 ⟨rfl, hb2⟩; (try (replace hb2 := below_undrew hb2)); (try (replace hb2 := below_undrewN hb2)); obtain ⟨hc2, hf2⟩ := bcell hb2; (try (have hz0_2 : w.heap.size < w2.heap.size := (by have := hb2.size; (try simp at this); omega))); (try (have hz1_2 : w.heap.size + 1 < w2.heap.size := (by have := hb2.size; (try simp at this); omega))); (try (have hz_1_2 : w1.heap.size < w2.heap.size := (by have := hb2.size; (try simp at this); omega)))))) | (go_at_call 41; ((with_reducible refine (rSign_ci k k' _).mono ?_); rintro e w' ⟨rfl, rfl⟩)))
  go_ret; exact ⟨rfl, (by repeat (first | (with_reducible exact Below.refl _ _) | (with_reducible refine below_al ?_ _) | (with_reducible refine below_drewN ?_ _) | (with_reducible refine Below.drew ?_) | (with_reducible refine below_via (by assumption) ?_) | (with_reducible refine below_sc ?_ ?_ _; · (first | (simp; done) | (simp; omega) | omega))))⟩

set_option maxRecDepth 100000 in
set_option maxHeartbeats 1000000 in
theorem rCompare_n (k n f : Int) (t : ByteArray) (n' f' : Int) (t' : ByteArray) (w : World) (h3 : (k == 3) = false) (h4 : (k == 4) = false)
    (s1 : ∀ w, Calls Tryd.prog 14 #[.agg #[.int .i64 k, .int .i64 n, .int .u64 f, .string t]] w fun e w' => e = .returned (.bool true) ∧ Below w.heap.size w w')
    (s2 : ∀ w, Calls Tryd.prog 14 #[.agg #[.int .i64 k, .int .i64 n', .int .u64 f', .string t']] w fun e w' => e = .returned (.bool true) ∧ Below w.heap.size w w') :
    Calls Tryd.prog 24 #[.agg #[.int .i64 k, .int .i64 n, .int .u64 f, .string t], .agg #[.int .i64 k, .int .i64 n', .int .u64 f', .string t']] w fun e w' => e = .returned (.int .i64 (Lib.compareInt n n')) ∧ Below w.heap.size w w' := by
  have S1 := Lib.hid s1; have S2 := Lib.hid s2; clear s1 s2
  go_enter Tryd.func24, Tryd.ntmps24
  go_wp2_with (first | (first | (go_at_call 14; (fail_if_success (have := w1)); ((with_reducible refine (S1.out _).mono ?_); rintro e w1 ⟨rfl, hb1⟩; (try (replace hb1 := below_undrew hb1)); (try (replace hb1 := below_undrewN hb1)); obtain ⟨hc1, hf1⟩ := bcell hb1; (try (have hz0_1 : w.heap.size < w1.heap.size := (by have := hb1.size; (try simp at this); omega))); (try (have hz1_1 : w.heap.size + 1 < w1.heap.size := (by have := hb1.size; (try simp at this); omega))))) | (go_at_call 14; (fail_if_success (have := w1)); ((with_reducible refine (S2.out _).mono ?_); rintro e w1 ⟨rfl, hb1⟩; (try (replace hb1 := below_undrew hb1)); (try (replace hb1 := below_undrewN hb1)); obtain ⟨hc1, hf1⟩ := bcell hb1; (try (have hz0_1 : w.heap.size < w1.heap.size := (by have := hb1.size; (try simp at this); omega))); (try (have hz1_1 : w.heap.size + 1 < w1.heap.size := (by have := hb1.size; (try simp at this); omega))))) | (go_at_call 14; (fail_if_success (have := w2)); ((with_reducible refine (S1.out _).mono ?_); rintro e w2 ⟨rfl, hb2⟩; (try (replace hb2 := below_undrew hb2)); (try (replace hb2 := below_undrewN hb2)); obtain ⟨hc2, hf2⟩ := bcell hb2; (try (have hz0_2 : w.heap.size < w2.heap.size := (by have := hb2.size; (try simp at this); omega))); (try (have hz1_2 : w.heap.size + 1 < w2.heap.size := (by have := hb2.size; (try simp at this); omega))); (try (have hz_1_2 : w1.heap.size < w2.heap.size := (by have := hb2.size; (try simp at this); omega))))) | (go_at_call 14; (fail_if_success (have := w2)); ((with_reducible refine (S2.out _).mono ?_); rintro e w2 ⟨rfl, hb2⟩; (try (replace hb2 := below_undrew hb2)); (try (replace hb2 := below_undrewN hb2)); obtain ⟨hc2, hf2⟩ := bcell hb2; (try (have hz0_2 : w.heap.size < w2.heap.size := (by have := hb2.size; (try simp at this); omega))); (try (have hz1_2 : w.heap.size + 1 < w2.heap.size := (by have := hb2.size; (try simp at this); omega))); (try (have hz_1_2 : w1.heap.size < w2.heap.size := (by have := hb2.size; (try simp at this); omega)))))) | (go_at_call 41; ((with_reducible refine (rSign_ci n n' _).mono ?_); rintro e w' ⟨rfl, rfl⟩)))
  go_ret; exact ⟨rfl, (by repeat (first | (with_reducible exact Below.refl _ _) | (with_reducible refine below_al ?_ _) | (with_reducible refine below_drewN ?_ _) | (with_reducible refine Below.drew ?_) | (with_reducible refine below_via (by assumption) ?_) | (with_reducible refine below_sc ?_ ?_ _; · (first | (simp; done) | (simp; omega) | omega))))⟩

set_option maxRecDepth 100000 in
set_option maxHeartbeats 1000000 in
theorem rCompare_t (n f : Int) (t : ByteArray) (n' f' : Int) (t' : ByteArray) (w : World)
    (s1 : ∀ w, Calls Tryd.prog 14 #[.agg #[.int .i64 4, .int .i64 n, .int .u64 f, .string t]] w fun e w' => e = .returned (.bool true) ∧ Below w.heap.size w w')
    (s2 : ∀ w, Calls Tryd.prog 14 #[.agg #[.int .i64 4, .int .i64 n', .int .u64 f', .string t']] w fun e w' => e = .returned (.bool true) ∧ Below w.heap.size w w') :
    Calls Tryd.prog 24 #[.agg #[.int .i64 4, .int .i64 n, .int .u64 f, .string t], .agg #[.int .i64 4, .int .i64 n', .int .u64 f', .string t']] w fun e w' => e = .returned (.int .i64 (Lib.compareBytes t.data.toList t'.data.toList)) ∧ Below w.heap.size w w' := by
  have S1 := Lib.hid s1; have S2 := Lib.hid s2; clear s1 s2
  go_enter Tryd.func24, Tryd.ntmps24
  go_wp2_with (first | (first | (go_at_call 14; (fail_if_success (have := w1)); ((with_reducible refine (S1.out _).mono ?_); rintro e w1 ⟨rfl, hb1⟩; (try (replace hb1 := below_undrew hb1)); (try (replace hb1 := below_undrewN hb1)); obtain ⟨hc1, hf1⟩ := bcell hb1; (try (have hz0_1 : w.heap.size < w1.heap.size := (by have := hb1.size; (try simp at this); omega))); (try (have hz1_1 : w.heap.size + 1 < w1.heap.size := (by have := hb1.size; (try simp at this); omega))))) | (go_at_call 14; (fail_if_success (have := w1)); ((with_reducible refine (S2.out _).mono ?_); rintro e w1 ⟨rfl, hb1⟩; (try (replace hb1 := below_undrew hb1)); (try (replace hb1 := below_undrewN hb1)); obtain ⟨hc1, hf1⟩ := bcell hb1; (try (have hz0_1 : w.heap.size < w1.heap.size := (by have := hb1.size; (try simp at this); omega))); (try (have hz1_1 : w.heap.size + 1 < w1.heap.size := (by have := hb1.size; (try simp at this); omega))))) | (go_at_call 14; (fail_if_success (have := w2)); ((with_reducible refine (S1.out _).mono ?_); rintro e w2 ⟨rfl, hb2⟩; (try (replace hb2 := below_undrew hb2)); (try (replace hb2 := below_undrewN hb2)); obtain ⟨hc2, hf2⟩ := bcell hb2; (try (have hz0_2 : w.heap.size < w2.heap.size := (by have := hb2.size; (try simp at this); omega))); (try (have hz1_2 : w.heap.size + 1 < w2.heap.size := (by have := hb2.size; (try simp at this); omega))); (try (have hz_1_2 : w1.heap.size < w2.heap.size := (by have := hb2.size; (try simp at this); omega))))) | (go_at_call 14; (fail_if_success (have := w2)); ((with_reducible refine (S2.out _).mono ?_); rintro e w2 ⟨rfl, hb2⟩; (try (replace hb2 := below_undrew hb2)); (try (replace hb2 := below_undrewN hb2)); obtain ⟨hc2, hf2⟩ := bcell hb2; (try (have hz0_2 : w.heap.size < w2.heap.size := (by have := hb2.size; (try simp at this); omega))); (try (have hz1_2 : w.heap.size + 1 < w2.heap.size := (by have := hb2.size; (try simp at this); omega))); (try (have hz_1_2 : w1.heap.size < w2.heap.size := (by have := hb2.size; (try simp at this); omega)))))) | (go_at_call 41; ((with_reducible refine (rSign_tx' t t' _).mono ?_); rintro e w' ⟨rfl, rfl⟩)))
  go_ret; exact ⟨rfl, (by repeat (first | (with_reducible exact Below.refl _ _) | (with_reducible refine below_al ?_ _) | (with_reducible refine below_drewN ?_ _) | (with_reducible refine Below.drew ?_) | (with_reducible refine below_via (by assumption) ?_) | (with_reducible refine below_sc ?_ ?_ _; · (first | (simp; done) | (simp; omega) | omega))))⟩

set_option maxRecDepth 100000 in
set_option maxHeartbeats 1000000 in
theorem rCompare_f (n f : Int) (t : ByteArray) (n' f' : Int) (t' : ByteArray) (w : World) (hf : U64 f) (hf' : U64 f')
    (s1 : ∀ w, Calls Tryd.prog 14 #[.agg #[.int .i64 3, .int .i64 n, .int .u64 f, .string t]] w fun e w' => e = .returned (.bool true) ∧ Below w.heap.size w w')
    (s2 : ∀ w, Calls Tryd.prog 14 #[.agg #[.int .i64 3, .int .i64 n', .int .u64 f', .string t']] w fun e w' => e = .returned (.bool true) ∧ Below w.heap.size w w') :
    Calls Tryd.prog 24 #[.agg #[.int .i64 3, .int .i64 n, .int .u64 f, .string t], .agg #[.int .i64 3, .int .i64 n', .int .u64 f', .string t']] w fun e w' => e = .returned (.int .i64 (Lib.compareInt (rKey f) (rKey f'))) ∧ Below w.heap.size w w' := by
  have S1 := Lib.hid s1; have S2 := Lib.hid s2; clear s1 s2
  have K1 := Lib.hid (fun w => rKey_q f w hf); have K2 := Lib.hid (fun w => rKey_q f' w hf'); clear hf hf'
  go_enter Tryd.func24, Tryd.ntmps24
  go_wp2_with (first | (first | (go_at_call 14; (fail_if_success (have := w1)); ((with_reducible refine (S1.out _).mono ?_); rintro e w1 ⟨rfl, hb1⟩; (try (replace hb1 := below_undrew hb1)); (try (replace hb1 := below_undrewN hb1)); obtain ⟨hc1, hf1⟩ := bcell hb1; (try (have hz0_1 : w.heap.size < w1.heap.size := (by have := hb1.size; (try simp at this); omega))); (try (have hz1_1 : w.heap.size + 1 < w1.heap.size := (by have := hb1.size; (try simp at this); omega))))) | (go_at_call 14; (fail_if_success (have := w1)); ((with_reducible refine (S2.out _).mono ?_); rintro e w1 ⟨rfl, hb1⟩; (try (replace hb1 := below_undrew hb1)); (try (replace hb1 := below_undrewN hb1)); obtain ⟨hc1, hf1⟩ := bcell hb1; (try (have hz0_1 : w.heap.size < w1.heap.size := (by have := hb1.size; (try simp at this); omega))); (try (have hz1_1 : w.heap.size + 1 < w1.heap.size := (by have := hb1.size; (try simp at this); omega))))) | (go_at_call 14; (fail_if_success (have := w2)); ((with_reducible refine (S1.out _).mono ?_); rintro e w2 ⟨rfl, hb2⟩; (try (replace hb2 := below_undrew hb2)); (try (replace hb2 := below_undrewN hb2)); obtain ⟨hc2, hf2⟩ := bcell hb2; (try (have hz0_2 : w.heap.size < w2.heap.size := (by have := hb2.size; (try simp at this); omega))); (try (have hz1_2 : w.heap.size + 1 < w2.heap.size := (by have := hb2.size; (try simp at this); omega))); (try (have hz_1_2 : w1.heap.size < w2.heap.size := (by have := hb2.size; (try simp at this); omega))))) | (go_at_call 14; (fail_if_success (have := w2)); ((with_reducible refine (S2.out _).mono ?_); rintro e w2 ⟨rfl, hb2⟩; (try (replace hb2 := below_undrew hb2)); (try (replace hb2 := below_undrewN hb2)); obtain ⟨hc2, hf2⟩ := bcell hb2; (try (have hz0_2 : w.heap.size < w2.heap.size := (by have := hb2.size; (try simp at this); omega))); (try (have hz1_2 : w.heap.size + 1 < w2.heap.size := (by have := hb2.size; (try simp at this); omega))); (try (have hz_1_2 : w1.heap.size < w2.heap.size := (by have := hb2.size; (try simp at this); omega)))))))
  go_quiet (first
    | (go_at_call 42; with_reducible exact Calls.quiet_of_same (K1.out _))
    | (go_at_call 42; with_reducible exact Calls.quiet_of_same (K2.out _))
    | (go_at_call 41; with_reducible exact Calls.quiet_of_same ((rSign_ci (rKey f) (rKey f') _).mono fun _ _ ⟨a, b⟩ => ⟨a, b.symm⟩)))
  go_wp2_with fail
  go_ret; exact ⟨rfl, (by repeat (first | (with_reducible exact Below.refl _ _) | (with_reducible refine below_al ?_ _) | (with_reducible refine below_drewN ?_ _) | (with_reducible refine Below.drew ?_) | (with_reducible refine below_via (by assumption) ?_) | (with_reducible refine below_sc ?_ ?_ _; · (first | (simp; done) | (simp; omega) | omega))))⟩

theorem rCompare_c (k n f : Int) (t : ByteArray) (k' n' f' : Int) (t' : ByteArray) (w : World) (hf : U64 f) (hf' : U64 f') : Calls Tryd.prog 24 #[.agg #[.int .i64 k, .int .i64 n, .int .u64 f, .string t], .agg #[.int .i64 k', .int .i64 n', .int .u64 f', .string t']] w fun e w' => e = .returned (.int .i64 (rCmp k n f t k' n' f' t')) ∧ Below w.heap.size w w' := by
  have S1 := fun w => rSound_c k n f t w hf
  have S2 := fun w => rSound_c k' n' f' t' w hf'
  cases hb : (soundV k n f t && soundV k' n' f' t') with
  | false =>
    have : rCmp k n f t k' n' f' t' = 0 := by unfold rCmp; rw [← Bool.not_and, hb]; rfl
    rw [this]; exact rCompare_0 k n f t k' n' f' t' w _ _ hb S1 S2
  | true =>
    obtain ⟨h1, h2⟩ := Bool.and_eq_true_iff.1 hb
    rw [h1] at S1; rw [h2] at S2
    cases hk : (k == k') with
    | false =>
      have : rCmp k n f t k' n' f' t' = Lib.compareInt k k' := by simp [rCmp, h1, h2, bne, hk]
      rw [this]; exact rCompare_k k n f t k' n' f' t' w hk S1 S2
    | true =>
      obtain rfl : k = k' := by simpa using hk
      cases h3 : (k == 3) with
      | true =>
        obtain rfl : k = 3 := by simpa using h3
        have : rCmp 3 n f t 3 n' f' t' = Lib.compareInt (rKey f) (rKey f') := by simp [rCmp, h1, h2]
        rw [this]; exact rCompare_f n f t n' f' t' w hf hf' S1 S2
      | false =>
        cases h4 : (k == 4) with
        | true =>
          obtain rfl : k = 4 := by simpa using h4
          have : rCmp 4 n f t 4 n' f' t' = Lib.compareBytes t.data.toList t'.data.toList := by simp [rCmp, h1, h2]
          rw [this]; exact rCompare_t n f t n' f' t' w S1 S2
        | false =>
          have : rCmp k n f t k n' f' t' = Lib.compareInt n n' := by simp [rCmp, h1, h2, h3, h4]
          rw [this]; exact rCompare_n k n f t n' f' t' w h3 h4 S1 S2

end Go.Proofs.YtjnkkjeneomckaaDoor
