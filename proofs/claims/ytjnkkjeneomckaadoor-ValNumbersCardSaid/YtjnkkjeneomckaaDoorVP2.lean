/- Plain laws of whole numbers. -/
import Derived.Test.YtjnkkjeneomckaaDoorVP1
namespace Go.Proofs.YtjnkkjeneomckaaDoor
set_option linter.unusedVariables false
set_option linter.unusedSimpArgs false
open Go.RowKit

theorem twoS_int (code a b : Int) (h : 10 ≤ code ∧ code ≤ 14) : twoS code 2 a 0 ⟨#[]⟩ 2 b 0 ⟨#[]⟩ = addI (intsS code a b) := by
  obtain ⟨h1, h2⟩ := h
  obtain rfl | rfl | rfl | rfl | rfl : code = 10 ∨ code = 11 ∨ code = 12 ∨ code = 13 ∨ code = 14 := by omega
  all_goals simp [twoS, sound_int, fitsB]

theorem twoI_ok (code a b x : Int) (w : World) (hc : 10 ≤ code ∧ code ≤ 14) (ha : I64 a) (hb : I64 b) (h : intsS code a b = .ok x) :
    Calls Tryd.prog 26 #[.int .i64 code, .agg #[.int .i64 2, .int .i64 a, .int .u64 0, .string ⟨#[]⟩], .agg #[.int .i64 2, .int .i64 b, .int .u64 0, .string ⟨#[]⟩]] w fun e w' => e = .returned (.tuple #[.agg #[.int .i64 2, .int .i64 x, .int .u64 0, .string ⟨#[]⟩], .int .i64 0]) ∧ Below w.heap.size w w' := by
  refine (twoD_c code 2 a 0 ⟨#[]⟩ 2 b 0 ⟨#[]⟩ w ha hb).mono ?_
  rintro e w' ⟨rfl, hbel⟩
  rw [twoS_int _ _ _ hc, h]
  exact ⟨rfl, hbel⟩
theorem twoI_no (code a b c : Int) (w : World) (hc : 10 ≤ code ∧ code ≤ 14) (ha : I64 a) (hb : I64 b) (h : intsS code a b = .error c) :
    Calls Tryd.prog 26 #[.int .i64 code, .agg #[.int .i64 2, .int .i64 a, .int .u64 0, .string ⟨#[]⟩], .agg #[.int .i64 2, .int .i64 b, .int .u64 0, .string ⟨#[]⟩]] w fun e w' => e = .returned (.tuple #[.agg #[.int .i64 0, .int .i64 0, .int .u64 0, .string ⟨#[]⟩], .int .i64 c]) ∧ Below w.heap.size w w' := by
  refine (twoD_c code 2 a 0 ⟨#[]⟩ 2 b 0 ⟨#[]⟩ w ha hb).mono ?_
  rintro e w' ⟨rfl, hbel⟩
  rw [twoS_int _ _ _ hc, h]
  exact ⟨rfl, hbel⟩

theorem ints_add (a b : Int) : intsS 10 a b = fitI (a + b) := rfl
theorem ints_sub (a b : Int) : intsS 11 a b = fitI (a - b) := rfl
theorem ints_mul (a b : Int) : intsS 12 a b = fitI (a * b) := rfl
theorem ints_div (a b : Int) (h : b ≠ 0) : intsS 13 a b = fitI (a.tdiv b) := by simp [intsS, h]
theorem ints_mod (a b : Int) (h : b ≠ 0) : intsS 14 a b = .ok (a.tmod b) := by simp [intsS, h]
theorem ints_div0 (a : Int) : intsS 13 a 0 = .error 10 := by simp [intsS]
theorem ints_mod0 (a : Int) : intsS 14 a 0 = .error 10 := by simp [intsS]
theorem fit_in {x : Int} (h : I64 x) : fitI x = .ok x := by unfold fitI; exact if_pos h
theorem fit_out {x : Int} (h : ¬ I64 x) : fitI x = .error 11 := by unfold fitI; exact if_neg h

theorem add_cases (a b : Int) (ha : I64 a) (hb : I64 b) :
    (intsS 10 a b = .ok (a + b) ∧ I64 (a + b) ∧ intsS 11 (a + b) b = .ok a) ∨ (intsS 10 a b = .error 11 ∧ (decide (0 ≤ a) == decide (0 ≤ b)) = true ∧ (0 ≤ a ↔ 0 ≤ b)) := by
  obtain ⟨a1, a2⟩ := ha; obtain ⟨b1, b2⟩ := hb
  by_cases h : I64 (a + b)
  · left
    refine ⟨by rw [ints_add, fit_in h], h, ?_⟩
    rw [ints_sub, show a + b - b = a by omega, fit_in ⟨a1, a2⟩]
  · right
    refine ⟨by rw [ints_add, fit_out h], ?_⟩
    have h' : ¬ (-9223372036854775808 ≤ a + b ∧ a + b ≤ 9223372036854775807) := h
    by_cases h1 : 0 ≤ a <;> by_cases h2 : 0 ≤ b <;> simp [h1, h2] <;> omega

theorem mul_cases (a b : Int) (ha : I64 a) (hb : I64 b) :
    (intsS 12 a b = .ok (a * b) ∧ I64 (a * b) ∧ (b ≠ 0 → intsS 13 (a * b) b = .ok a)) ∨ (intsS 12 a b = .error 11 ∧ (a == 0) = false ∧ (b == 0) = false ∧ (a == 1) = false ∧ (b == 1) = false) := by
  by_cases h : I64 (a * b)
  · left
    refine ⟨by rw [ints_mul, fit_in h], h, fun h0 => ?_⟩
    rw [ints_div _ _ h0, Int.mul_tdiv_cancel _ h0, fit_in ha]
  · right
    refine ⟨by rw [ints_mul, fit_out h], ?_⟩
    refine ⟨?_, ?_, ?_, ?_⟩
    · rw [beq_eq_false_iff_ne]; rintro rfl; exact h (by rw [Int.zero_mul]; exact i64_0)
    · rw [beq_eq_false_iff_ne]; rintro rfl; exact h (by rw [Int.mul_zero]; exact i64_0)
    · rw [beq_eq_false_iff_ne]; rintro rfl; exact h (by rw [Int.one_mul]; exact hb)
    · rw [beq_eq_false_iff_ne]; rintro rfl; exact h (by rw [Int.mul_one]; exact ha)

theorem div_cases (a b : Int) (ha : I64 a) (hb : I64 b) :
    (b = 0 ∧ intsS 13 a 0 = .error 10 ∧ intsS 14 a 0 = .error 10) ∨
    (b = -1 ∧ intsS 13 a (-1) = .error 11 ∧ intsS 14 a (-1) = .ok 0) ∨
    (b ≠ 0 ∧ ∃ q m, intsS 13 a b = .ok q ∧ I64 q ∧ intsS 14 a b = .ok m ∧ I64 m ∧ intsS 12 q b = .ok (q * b) ∧ I64 (q * b) ∧ intsS 10 (q * b) m = .ok a ∧ (decide (0 ≤ m) == (decide (0 ≤ a) || m == 0)) = true ∧ (0 ≤ m ↔ (0 ≤ a ∨ m = 0))) := by
  by_cases h0 : b = 0
  · subst h0; left; exact ⟨rfl, ints_div0 a, ints_mod0 a⟩
  · right
    by_cases h1 : I64 (a.tdiv b)
    · right
      have e1 : a.tdiv b * b + a.tmod b = a := Int.tdiv_mul_add_tmod a b
      have hm := tmod_I64 (b := b) ha h0
      have hq : I64 (a.tdiv b * b) := by
        have h2 : (a.tdiv b * b).natAbs ≤ a.natAbs := by
          rw [Int.natAbs_mul, Int.natAbs_tdiv]; exact Nat.div_mul_le_self _ _
        obtain ⟨a1, a2⟩ := ha
        have s1 : 0 ≤ a → 0 ≤ a.tmod b := fun h => Int.tmod_nonneg b h
        constructor
        · omega
        · by_cases h4 : 0 ≤ a
          · have := s1 h4; omega
          · have : a.tmod b ≤ 0 := by
              have h5 := Int.tmod_nonneg (a := -a) b (by omega)
              rw [Int.neg_tmod] at h5; omega
            have h6 : a.tmod b = 0 ∨ a.tmod b < 0 := by omega
            have h7 : (a.tdiv b * b) ≤ 0 := by
              have h8 : 0 ≤ (-a).tdiv b * b := by
                rcases Int.lt_or_gt_of_ne h0 with hb0 | hb0
                · have := Int.tdiv_nonpos_of_nonneg_of_nonpos (a := -a) (b := b) (by omega) (by omega)
                  exact Int.mul_nonneg_of_nonpos_of_nonpos this (by omega)
                · exact Int.mul_nonneg (Int.tdiv_nonneg (by omega) (by omega)) (by omega)
              rw [Int.neg_tdiv, Int.neg_mul] at h8; omega
            omega
      refine ⟨h0, a.tdiv b, a.tmod b, by rw [ints_div _ _ h0, fit_in h1], h1, ints_mod _ _ h0, hm, by rw [ints_mul, fit_in hq], hq, by rw [ints_add, e1, fit_in ha], ?_⟩
      by_cases h4 : 0 ≤ a
      · have := Int.tmod_nonneg b h4; simp [h4, this]
      · have h5 : a.tmod b ≤ 0 := by
          have h5 := Int.tmod_nonneg (a := -a) b (by omega)
          rw [Int.neg_tmod] at h5; omega
        by_cases h6 : a.tmod b = 0
        · simp [h4, h6]
        · have : ¬ 0 ≤ a.tmod b := by omega
          simp [h4, h6, this]
    · left
      have hb1 : b = -1 := by
        by_cases h2 : b = -1
        · exact h2
        · exact absurd (tdiv_range ha h2 h0) h1
      subst hb1
      refine ⟨rfl, by rw [ints_div _ _ h0, fit_out h1], by rw [ints_mod _ _ h0, tmod_neg_one]⟩

end Go.Proofs.YtjnkkjeneomckaaDoor
