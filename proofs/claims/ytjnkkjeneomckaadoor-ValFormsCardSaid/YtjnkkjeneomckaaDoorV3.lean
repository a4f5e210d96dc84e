/- Floats: which are NaNs, how they are made plain, compared, added. -/
import Derived.Test.YtjnkkjeneomckaaDoorV2
import Derived.Test.YtjnkkjeneomckaaDoorVF
namespace Go.Proofs.YtjnkkjeneomckaaDoor
set_option linter.unusedVariables false
set_option linter.unusedSimpArgs false
open Go.RowKit

theorem sgnW : Ieee.double.signWeight = 9223372036854775808 := by decide
theorem binW : Ieee.double.binade = 4503599627370496 := by decide
theorem infW : Ieee.double.infRung = 9218868437227405312 := by decide

theorem fNaN_iff (b : Int) : fNaN b = decide (9218868437227405312 < b.toNat % 9223372036854775808) := by
  unfold fNaN
  show (Ieee.Datum.order (Ieee.double.read b.toNat) (Ieee.double.read b.toNat) != some .eq) = _
  unfold Ieee.Format.read
  simp only [sgnW, binW, infW]
  generalize b.toNat % 9223372036854775808 = r
  generalize (b.toNat / 9223372036854775808 % 2 == 1) = s
  by_cases h1 : r < 4503599627370496
  · rw [if_pos h1]
    have : ¬ 9218868437227405312 < r := by omega
    simp [Ieee.Datum.order, this]
  · rw [if_neg h1]
    by_cases h2 : r < 9218868437227405312
    · rw [if_pos h2]
      have : ¬ 9218868437227405312 < r := by omega
      simp [Ieee.Datum.order, this]
    · rw [if_neg h2]
      by_cases h3 : r = 9218868437227405312
      · rw [if_pos h3]
        have : ¬ 9218868437227405312 < r := by omega
        simp [Ieee.Datum.order, this]
      · rw [if_neg h3]
        have : 9218868437227405312 < r := by omega
        simp [Ieee.Datum.order, this]

theorem plain_nan {b : Int} (h : 9218868437227405312 < b.toNat % 9223372036854775808) : plainI b = 9221120237041090560 := by
  rw [plainI, fNaN_iff, if_pos (by simpa using h)]

theorem plain_num {b : Int} (h : ¬ 9218868437227405312 < b.toNat % 9223372036854775808) : plainI b = if b = 9223372036854775808 then 0 else b := by
  rw [plainI, fNaN_iff, if_neg (by simpa using h)]
  simp

theorem plain_U64 {b : Int} (h : U64 b) : U64 (plainI b) := by
  obtain ⟨h1, h2⟩ := h
  by_cases hn : 9218868437227405312 < b.toNat % 9223372036854775808
  · rw [plain_nan hn]; exact ⟨by decide, by decide⟩
  · rw [plain_num hn]; split
    · exact ⟨by decide, by decide⟩
    · exact ⟨h1, h2⟩

theorem plain_idem {b : Int} : plainI (plainI b) = plainI b := by
  by_cases hn : 9218868437227405312 < b.toNat % 9223372036854775808
  · rw [plain_nan hn]; decide +kernel
  · rw [plain_num hn]; split
    · decide +kernel
    · rename_i h; rw [plain_num hn, if_neg h]

theorem run_farith (op : BinOp) (hop : op = .add ∨ op = .sub ∨ op = .mul ∨ op = .quo) (x y : Nat) (w : World) :
    ∃ r n, (binOp op 54 (.float .f64 x) (.float .f64 y)).run Tryd.prog w = .ok (.float .f64 r) (w.drewN n) ∧ plainI r = fRes (floatBits op .f64 x y) := by
  cases h : floatBits op .f64 x y with
  | some r => exact ⟨r, 0, by rw [run_float_arith _ _ _ _ _ _ _ h]; rfl, rfl⟩
  | none =>
    refine ⟨(w.tape w.drawn (.nanBits .f64 x y) % 2) * 2 ^ 63 + 0x7ff0000000000000 + 1 + (w.tape w.drawn (.nanBits .f64 x y) / 2) % (2 ^ 52 - 1), 1, ?_, ?_⟩
    · rcases hop with rfl | rfl | rfl | rfl <;> (simp only [floatBits] at h; simp [binOp, Op.floatArith, h, Question.forced, Question.cut]; rfl)
    · refine plain_nan ?_
      generalize w.tape w.drawn (.nanBits .f64 x y) = t
      rw [Int.toNat_natCast]
      rcases (show t % 2 = 0 ∨ t % 2 = 1 by omega) with h | h <;> rw [h] <;> omega

/-- a float is returned whose plain form is known -/
def OutF (p : Int) (w : World) (e : Ending) (w' : World) : Prop := ∃ (r : Nat) (n : Nat), e = .returned (.float .f64 r) ∧ plainI r = p ∧ w' = w.drewN n

set_option maxRecDepth 100000 in
set_option maxHeartbeats 2000000 in
theorem floats_c (code : Int) (x y : Nat) (w : World) : Calls Tryd.prog 73 #[.int .i64 code, .float .f64 x, .float .f64 y] w (OutF (floatS code x y) w) := by
  obtain ⟨r1, n1, e1, p1⟩ := run_farith .add (by simp) x y w
  obtain ⟨r2, n2, e2, p2⟩ := run_farith .sub (by simp) x y w
  obtain ⟨r3, n3, e3, p3⟩ := run_farith .mul (by simp) x y w
  obtain ⟨r4, n4, e4, p4⟩ := run_farith .quo (by simp) x y w
  have P1 := Lib.hid p1; have P2 := Lib.hid p2; have P3 := Lib.hid p3; have P4 := Lib.hid p4
  clear p1 p2 p3 p4
  go_enter Tryd.func73, Tryd.ntmps73
  go_wp2_with fail
  all_goals (go_ret; refine ⟨_, _, rfl, ?_, rfl⟩; clear e1 e2 e3 e4; first | (rw [P1.out]; simp [floatS, floatBits, *]; rfl; done) | (rw [P2.out]; simp [floatS, floatBits, *]; rfl; done) | (rw [P3.out]; simp [floatS, floatBits, *]; rfl; done) | (rw [P4.out]; simp [floatS, floatBits, *]; rfl; done) | skip)

/-- how two floats stand to each other, a NaN above all -/
def cmpF (x y : Nat) : Int :=
  if fNaN x && fNaN y then 0 else if fNaN x then 1 else if fNaN y then -1
  else if FloatKind.f64.format.order x y == some .lt then -1 else if FloatKind.f64.format.order x y == some .gt then 1 else 0

set_option maxRecDepth 100000 in
set_option maxHeartbeats 2000000 in
theorem isNaNf_c (x : Nat) (w : World) : Calls Tryd.prog 85 #[.float .f64 x] w fun e w' => e = .returned (.bool (fNaN x)) ∧ w = w' := by
  go_enter Tryd.func85, Tryd.ntmps85
  go_wp2_with fail
  go_ret
  exact ⟨rfl, rfl⟩

set_option maxRecDepth 100000 in
set_option maxHeartbeats 2000000 in
theorem cmpF64_c (x y : Nat) (w : World) (h1 : fNaN x = false) (h2 : fNaN y = false) : Calls Tryd.prog 62 #[.float .f64 x, .float .f64 y] w fun e w' => e = .returned (.int .i64 (cmpF x y)) ∧ w = w' := by
  go_enter Tryd.func62, Tryd.ntmps62
  go_wp2_with (go_at_call 85; refine (isNaNf_c _ _).mono ?_; rintro e w' ⟨rfl, rfl⟩)
  all_goals (go_ret; refine ⟨?_, rfl⟩; congr 2; simp [cmpF, *])

theorem fNaN_def (x : Nat) : (FloatKind.f64.format.order x x != some .eq) = fNaN x := rfl

set_option maxRecDepth 100000 in
set_option maxHeartbeats 2000000 in
theorem compareFloats_c (x y : Nat) (w : World) : Calls Tryd.prog 38 #[.float .f64 x, .float .f64 y] w fun e w' => e = .returned (.int .i64 (cmpF x y)) ∧ w = w' := by
  have d1 := fNaN_def x
  have d2 := fNaN_def y
  cases h1 : fNaN x <;> cases h2 : fNaN y
  all_goals
    rw [h1] at d1
    rw [h2] at d2
    go_enter Tryd.func38, Tryd.ntmps38
    go_wp2_with (go_at_call 62; refine (cmpF64_c _ _ _ (by assumption) (by assumption)).mono ?_; rintro e w' ⟨rfl, rfl⟩)
    all_goals (go_ret; refine ⟨?_, rfl⟩; first | rfl | (congr 2; simp [cmpF, *]; done))

theorem nan_rung (x : Nat) : fNaN x = decide (9218868437227405312 < rungW x) := by rw [fNaN_iff, Int.toNat_natCast]; rfl

theorem match_float {motive : Array Value → Type} (x : Nat) (h1 : (x : Nat) → motive #[.float .f64 x]) (h2 : (x : Array Value) → motive x) : Go.Extern.MathFloor.toIntegral.match_2 motive #[.float .f64 x] h1 h2 = h1 x := rfl

theorem intF_nan {r : Nat} (hr : 9218868437227405312 < rungW r) : intF r = none := by
  have := intF_range r
  rw [decide_eq_false (by omega)] at this
  simpa using this

theorem quiet_pos (t : Nat) : 0 < Ieee.double.quiet t % 4503599627370496 := by
  unfold Ieee.Format.quiet
  have e : 2 ^ (Ieee.double.fractionBits - 1) = 2 ^ 51 := by decide
  rw [e, show 4503599627370496 = 2 ^ 52 by decide, Nat.or_mod_two_pow]
  have : 2 ^ 51 % 2 ^ 52 = 2 ^ 51 := by decide
  rw [this]
  have := @Nat.right_le_or (t % 2 ^ 52) (2 ^ 51)
  omega

theorem trunc_arch (x : Nat) (w : World) : ∃ r n, (callFunc 98 #[.float .f64 x]).run Tryd.prog w = .ok (.value (.float .f64 r)) (w.drewN n) ∧ intF r = intF x := by
  rw [run_callFunc_extern (e := Extern.MathFloor.toIntegral "math.archTrunc" .zero) Tryd.func98 (by kernel_rfl) (by kernel_rfl) (by kernel_rfl) (by kernel_rfl)]
  unfold Extern.MathFloor.toIntegral
  rw [match_float]
  rcases Nat.lt_or_ge 9218868437227405312 (rungW x) with h | h
  · obtain ⟨t, ht⟩ := read_nan h
    have hd : FloatKind.f64.decode x = .nan (negW x) t := ht
    rw [hd]
    simp only
    by_cases hq : FloatKind.f64.format.quiet t = t
    · rw [if_pos hq]
      exact ⟨x, 0, rfl, rfl⟩
    · rw [if_neg hq]
      simp only [Sem.run_bind, run_choose, Question.forced, Question.cut]
      refine ⟨_, 1, rfl, ?_⟩
      rw [intF_nan h]
      have key : ∀ (c : Prop) [Decidable c], intF (if c then x else FloatKind.f64.encode (Ieee.Datum.nan (negW x) (FloatKind.f64.format.quiet t))) = none := by
        intro c _
        split
        · exact intF_nan h
        · refine intF_nan ?_
          show 9218868437227405312 < rungW (Ieee.double.write (.nan (negW x) (Ieee.double.quiet t)))
          have hp := quiet_pos t
          have b : Ieee.double.binade = 4503599627370496 := by decide
          have f : Ieee.double.infRung = 9218868437227405312 := by decide
          simp only [Ieee.Format.write, b, f]
          rw [rungW_word _ (by omega)]
          omega
      exact key _
  · refine ⟨truncW x, 0, ?_, (trunc_int x h).1⟩
    rcases Nat.lt_or_eq_of_le h with h1 | h1
    · obtain ⟨m, i, e1, _⟩ := read_fin h1
      have hd : FloatKind.f64.decode x = .number (negW x) m i := e1
      rw [hd]
      simp only [truncW, e1]
      rfl
    · have e1 := read_inf h1
      have hd : FloatKind.f64.decode x = .infinity (negW x) := e1
      rw [hd]
      simp only [truncW, e1]
      rfl

theorem cast_fi (x : Nat) : floatToIntVal .f64 x .i64 = intF x := rfl

set_option maxRecDepth 100000 in
set_option maxHeartbeats 2000000 in
theorem trunc_c (x : Nat) (w : World) : Calls Tryd.prog 87 #[.float .f64 x] w fun e w' => ∃ r n, e = .returned (.float .f64 r) ∧ intF r = intF x ∧ w' = w.drewN n := by
  obtain ⟨r, n, h1, h2⟩ := trunc_arch x w
  have H := Lib.hid h2; clear h2
  go_enter Tryd.func87, Tryd.ntmps87
  go_wp2_with fail
  go_ret
  exact ⟨r, n, rfl, H.out, rfl⟩

end Go.Proofs.YtjnkkjeneomckaaDoor
