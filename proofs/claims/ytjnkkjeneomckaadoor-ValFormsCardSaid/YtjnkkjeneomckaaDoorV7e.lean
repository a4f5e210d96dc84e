/- The step of val over two values, whole. -/
import Derived.Test.YtjnkkjeneomckaaDoorV7b
import Derived.Test.YtjnkkjeneomckaaDoorV7c
import Derived.Test.YtjnkkjeneomckaaDoorV7d
namespace Go.Proofs.YtjnkkjeneomckaaDoor
set_option linter.unusedVariables false
set_option linter.unusedSimpArgs false
open Go.RowKit

theorem OutV.eq {r r' : Except Int V} {w : World} (h : r' = r) : ∀ e w', OutV r w e w' → OutV r' w e w' := fun _ _ h1 => by rw [h]; exact h1

theorem sound_text {k n f : Int} {t : ByteArray} (h : soundV k n f t = true) : k = 4 → t.size ≤ 4096 := by
  rintro rfl
  simp [soundV] at h
  exact h.2

theorem two_c (code k n f : Int) (t : ByteArray) (k' n' f' : Int) (t' : ByteArray) (w : World) (hn : I64 n) (hn' : I64 n') :
    Calls Tryd.prog 47 #[.int .i64 code, .agg #[.int .i64 k, .int .i64 n, .int .u64 f, .string t], .agg #[.int .i64 k', .int .i64 n', .int .u64 f', .string t']] w (OutV (twoS code k n f t k' n' f' t') w) := by
  cases hs : (soundV k n f t && soundV k' n' f' t' && decide (10 ≤ code) && decide (code ≤ 24)) with
  | false => exact (two_bad code k n f t k' n' f' t' w hn hn' hs).mono (OutV.eq (by simp only [twoS, hs, Bool.not_false, if_true]))
  | true =>
    have hs' := hs
    simp only [Bool.and_eq_true] at hs'
    obtain ⟨⟨⟨s1, s2⟩, e1⟩, e2⟩ := hs'
    cases hl : (code == 22 || code == 23) with
    | true =>
      refine (two_logic code k n f t k' n' f' t' w hn hn' s1 s2 (by simpa using hl)).mono (OutV.eq ?_)
      rw [twoS, hs, hl]; rfl
    | false =>
      have hl' := hl
      simp only [Bool.or_eq_false_iff] at hl'
      obtain ⟨l1, l2⟩ := hl'
      cases hz : (k == 0 || k' == 0 || k == k') with
      | false =>
        have hz' := hz
        simp only [Bool.or_eq_false_iff] at hz'
        refine (two_unlike code k n f t k' n' f' t' w hn hn' s1 s2 e1 e2 l1 l2 hz'.1.1 hz'.1.2 hz'.2).mono (OutV.eq ?_)
        rw [twoS, hs, hl, hz]; rfl
      | true =>
        cases l3 : (code == 24) with
        | true =>
          have hc : code = 24 := by simpa using l3
          subst hc
          refine (two_coal k n f t k' n' f' t' w hn hn' s1 s2 (by simp at hz; omega)).mono (OutV.eq ?_)
          rw [twoS, hs, hl, hz, l3]; rfl
        | false =>
          cases hf : (fitsB code k && fitsB code k') with
          | false =>
            refine (two_unfit code k n f t k' n' f' t' w hn hn' s1 s2 e1 e2 l1 l2 l3 hz hf).mono (OutV.eq ?_)
            rw [twoS, hs, hl, hz, l3, hf]; rfl
          | true =>
            have hf' := hf
            simp only [Bool.and_eq_true] at hf'
            cases hn0 : (k == 0 || k' == 0) with
            | true =>
              refine (two_null code k n f t k' n' f' t' w hn hn' s1 s2 e1 e2 l1 l2 l3 hn0 hf'.1 hf'.2).mono (OutV.eq ?_)
              rw [twoS, hs, hl, hz, l3, hf, hn0]; rfl
            | false =>
              have hn1 := hn0
              simp only [Bool.or_eq_false_iff] at hn1
              have hk : k = k' := by simp [hn1.1, hn1.2] at hz; exact hz
              subst hk
              cases hc : decide (16 ≤ code) with
              | true =>
                refine (two_cmp code k n f t n' f' t' w hn hn' s1 s2 e1 e2 l1 l2 l3 hn1.1 hf'.1 hc).mono (OutV.eq ?_)
                rw [twoS, hs, hl, hz, l3, hf, hn0, hc]; rfl
              | false =>
                cases h15 : (code == 15) with
                | true =>
                  have hc15 : code = 15 := by simpa using h15
                  subst hc15
                  have hk4 : k = 4 := by
                    have := hf'.1
                    simp [fitsB] at this hn1
                    omega
                  subst hk4
                  have z1 := sound_text s1 rfl
                  have z2 := sound_text s2 rfl
                  refine (two_cat n f t n' f' t' w hn hn' s1 s2 (by omega)).mono (OutV.eq ?_)
                  rw [twoS, hs, hl, hz, l3, hf, hn0, hc, h15]; rfl
                | false =>
                  cases h3 : (k == 3) with
                  | true =>
                    have hk3 : k = 3 := by simpa using h3
                    subst hk3
                    refine (two_flt code n f t n' f' t' w hn hn' s1 s2 e1 e2 l1 l2 l3 hf'.1 hc h15).mono (OutV.eq ?_)
                    rw [twoS, hs, hl, hz, l3, hf, hn0, hc, h15, h3]; rfl
                  | false =>
                    refine (two_int code k n f t n' f' t' w hn hn' s1 s2 e1 e2 l1 l2 l3 hn1.1 h3 hf'.1 hc h15).mono (OutV.eq ?_)
                    rw [twoS, hs, hl, hz, l3, hf, hn0, hc, h15, h3]; rfl

end Go.Proofs.YtjnkkjeneomckaaDoor
