/- The document's answer: Plain, Sound, the constructors, the order. -/
import Derived.Test.YtjnkkjeneomckaaDoorVP3
import Derived.BigQuiet
import Derived.Lib.VarintBits
import Derived.Lib.Zigzag
namespace Go.Proofs.YtjnkkjeneomckaaDoor
set_option linter.unusedVariables false
set_option linter.unusedSimpArgs false
open Go.RowKit

theorem and63 (b : Int) (h : U64 b) : bits .and .u64 b 9223372036854775807 = b % 9223372036854775808 := bits_mask .u64 64 (by decide) wraps_u64 63 (by decide) b h.1 h.2

theorem fNaN_and (b : Int) (h : U64 b) : decide (9218868437227405312 < bits .and .u64 b 9223372036854775807) = fNaN b := by
  obtain ⟨h0, h1⟩ := h
  rw [and63 b ⟨h0, h1⟩, fNaN_iff]
  congr 1
  apply propext
  omega

set_option maxRecDepth 100000 in
set_option maxHeartbeats 2000000 in
theorem rIsNaN_c (b : Int) (w : World) (h : U64 b) : Calls Tryd.prog 49 #[.int .u64 b] w fun e w' => e = .returned (.bool (fNaN b)) ∧ w = w' := by
  have h2 := fNaN_and b h
  go_enter Tryd.func49, Tryd.ntmps49
  go_wp2_with fail
  go_ret
  exact ⟨rfl, rfl⟩

set_option maxRecDepth 100000 in
set_option maxHeartbeats 2000000 in
theorem rPlain_c (b : Int) (w : World) (h : U64 b) : Calls Tryd.prog 29 #[.int .u64 b] w fun e w' => e = .returned (.int .u64 (plainI b)) ∧ w = w' := by
  have hm : fNaN 9223372036854775808 = false := by kernel_rfl
  go_enter Tryd.func29, Tryd.ntmps29
  go_wp2_with (go_at_call 49; refine (rIsNaN_c _ _ h).mono ?_; rintro e w' ⟨rfl, rfl⟩)
  · go_ret; refine ⟨?_, rfl⟩
    have hb : b = 9223372036854775808 := by have : (b == 9223372036854775808) = true := by assumption
                                            simpa using this
    subst hb; rfl
  · go_ret; refine ⟨?_, rfl⟩
    have hN : fNaN b = true := by assumption
    simp only [plainI, hN, if_true]; rfl
  · go_ret; refine ⟨?_, rfl⟩
    have hN : fNaN b = false := by assumption
    have hb : (b == 9223372036854775808) = false := by assumption
    simp only [plainI, hN, hb]; rfl

theorem xor_max (b : Int) (h : U64 b) : bits .xor .u64 IntKind.u64.max b = 18446744073709551615 - b := by
  obtain ⟨h0, h1⟩ := h
  show IntKind.u64.wrap (((BitVec.ofInt 64 18446744073709551615) ^^^ (BitVec.ofInt 64 b)).toNat : Int) = _
  rw [BitVec.toNat_xor, BitVec.toNat_ofInt, BitVec.toNat_ofInt]
  have e1 : ((18446744073709551615 : Int) % ((2 ^ 64 : Nat) : Int)).toNat = 2 ^ 64 - 1 := by decide
  have e2 : (b % ((2 ^ 64 : Nat) : Int)).toNat = b.toNat := by
    have : ((2 ^ 64 : Nat) : Int) = 18446744073709551616 := by decide
    omega
  rw [e1, e2, Lib.xor_ones64 _ (by omega), IntKind.wrap_u64]
  omega

def rKey (b : Int) : Int := if b < 9223372036854775808 then b + 9223372036854775808 else 18446744073709551615 - b
set_option maxRecDepth 100000 in
set_option maxHeartbeats 2000000 in
theorem rKey_c (b : Int) (w : World) (h : U64 b) : Calls Tryd.prog 42 #[.int .u64 b] w fun e w' => e = .returned (.int .u64 (rKey b)) ∧ w = w' := by
  go_enter Tryd.func42, Tryd.ntmps42
  have hx := xor_max b h
  go_wp2_with fail
  · go_ret; refine ⟨?_, rfl⟩
    have hb : (b / 9223372036854775808 == 1) = true := by assumption
    have hb2 : b / 9223372036854775808 = 1 := by simpa using hb
    have : rKey b = 18446744073709551615 - b := by unfold rKey; rw [if_neg (by omega)]
    rw [this, ← xor_max b (by assumption)]; rfl
  · go_ret; refine ⟨?_, rfl⟩
    have hb : (b / 9223372036854775808 == 1) = false := by assumption
    have hb2 : ¬ b / 9223372036854775808 = 1 := by simpa using hb
    have hlt : b < 9223372036854775808 := by have := h.2; omega
    have : rKey b = b + 9223372036854775808 := by unfold rKey; rw [if_pos hlt]
    rw [this, ← u64_orv63 b 9223372036854775808 h.1 hlt (by omega) (by omega) (by omega)]; rfl

set_option maxRecDepth 100000 in
set_option maxHeartbeats 2000000 in
theorem rSign_c (x y : Bool) (w : World) : Calls Tryd.prog 41 #[.bool x, .bool y] w fun e w' => e = .returned (.int .i64 (if x then -1 else if y then 1 else 0)) ∧ w = w' := by
  cases x <;> cases y
  all_goals
    go_enter Tryd.func41, Tryd.ntmps41
    go_wp2_with fail
    go_ret
    exact ⟨rfl, rfl⟩

theorem rPlain_q (b : Int) (w : World) (h : U64 b) : Calls Tryd.prog 29 #[.int .u64 b] w fun e w' => e = .returned (.int .u64 (plainI b)) ∧ w' = w := (rPlain_c b w h).mono fun _ _ ⟨a, b⟩ => ⟨a, b.symm⟩

theorem sound3_f {n f : Int} {t : ByteArray} (h : eqV 3 n f t 3 0 f ⟨#[]⟩ = false) : soundV 3 n f t = false := by simp [soundV, h]
theorem sound3_t {n f : Int} {t : ByteArray} (h : eqV 3 n f t 3 0 f ⟨#[]⟩ = true) : soundV 3 n f t = (plainI f == f) := by simp [soundV, h]

set_option maxRecDepth 100000 in
set_option maxHeartbeats 2000000 in
theorem rSound_c (k n f : Int) (t : ByteArray) (w : World) (hf : U64 f) :
    Calls Tryd.prog 14 #[.agg #[.int .i64 k, .int .i64 n, .int .u64 f, .string t]] w fun e w' => e = .returned (.bool (soundV k n f t)) ∧ Below w.heap.size w w' := by
  have h1 := run_eqV
  by_cases h3 : k = 3
  · subst h3
    cases he : eqV 3 n f t 3 0 f ⟨#[]⟩
    · rw [sound3_f he]
      go_enter Tryd.func14, Tryd.ntmps14
      go_wp2_with fail
      go_quiet ((go_at_call 29; exact Calls.quiet_of_same (rPlain_q _ _ hf)))
      go_wp2_with fail
      go_ret; exact ⟨rfl, below_box_drewN _ _ _⟩
    · rw [sound3_t he]
      go_enter Tryd.func14, Tryd.ntmps14
      go_wp2_with fail
      go_quiet ((go_at_call 29; exact Calls.quiet_of_same (rPlain_q _ _ hf)))
      go_wp2_with fail
      go_ret; exact ⟨rfl, below_box_drewN _ _ _⟩
  · have hk3 : (k == 3) = false := by simpa using h3
    go_enter Tryd.func14, Tryd.ntmps14
    go_wp2_with fail
    all_goals (clear h1; go_ret; refine ⟨?_, by first | exact below_box _ _ | exact below_box_drewN _ _ _⟩; congr 2; first | (simp [soundV, eqV, cast_le_4096, *]; done) | (simp_all [soundV, eqV, cast_le_4096]; done) | trace_state)

end Go.Proofs.YtjnkkjeneomckaaDoor
