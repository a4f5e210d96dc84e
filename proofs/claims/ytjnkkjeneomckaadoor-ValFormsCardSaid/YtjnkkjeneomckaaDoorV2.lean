/- The steps of val over whole numbers and floats: what they return or give up with. -/
import Derived.Test.YtjnkkjeneomckaaDoorV1
import Derived.Test.YtjnkkjeneomckaaDoorShelf
namespace Go.Proofs.YtjnkkjeneomckaaDoor
set_option linter.unusedVariables false
set_option linter.unusedSimpArgs false
open Go.RowKit

/-- A value. -/
structure V where
  k : Int
  n : Int
  f : Int
  t : ByteArray

/-- a value is returned, or the step gives up -/
def OutV (r : Except Int V) (w : World) (e : Ending) (w' : World) : Prop :=
  (match r with | .ok x => e = .returned (.agg #[.int .i64 x.k, .int .i64 x.n, .int .u64 x.f, .string x.t]) | .error c => e = .panicked (flt c)) ∧ Below w.heap.size w w'
/-- a number is returned, or the step gives up -/
def OutI (r : Except Int Int) (w : World) (e : Ending) (w' : World) : Prop :=
  (match r with | .ok x => e = .returned (.int .i64 x) | .error c => e = .panicked (flt c)) ∧ w = w'

set_option maxRecDepth 100000 in
set_option maxHeartbeats 2000000 in
theorem text_ok (s : ByteArray) (w : World) (h : s.size ≤ 4096) : Calls Tryd.prog 71 #[.string s] w fun e w' => e = .returned (.agg #[.int .i64 4, .int .i64 0, .int .u64 0, .string s]) ∧ Below w.heap.size w w' := by
  have h0 := ofText_c s
  simp only [if_pos h] at h0
  have H := Lib.hid h0; clear h0
  go_enter Tryd.func71, Tryd.ntmps71
  go_wp2_with (first | (go_at_call 11; refine (H.out _).mono ?_; rintro e w' ⟨rfl, hb⟩; (try (replace hb := below_undrew hb)); (try (replace hb := below_undrewN hb)); obtain ⟨hc, hf⟩ := bcell hb; (try (have hz0 : w.heap.size < w'.heap.size := (by have := hb.size; (try simp at this); omega))); (try (have hz1 : w.heap.size + 1 < w'.heap.size := (by have := hb.size; (try simp at this); omega))); (try (have hz2 : w.heap.size + 2 < w'.heap.size := (by have := hb.size; (try simp at this); omega))); (try (have hz3 : w.heap.size + 3 < w'.heap.size := (by have := hb.size; (try simp at this); omega)))) | (go_at_call 65; refine (must_t _ _).mono ?_; rintro e w' ⟨rfl, rfl⟩))
  exact bodyPost_ret (v := .agg #[.int .i64 4, .int .i64 0, .int .u64 0, .string s]) (by simp [results, Tryd.results71, go_sem, *]) rfl ⟨rfl, (by repeat (first | (with_reducible exact Below.refl _ _) | (with_reducible refine below_al ?_ _) | (with_reducible refine below_drewN ?_ _) | (with_reducible refine Below.drew ?_) | (with_reducible refine below_via (by assumption) ?_) | (with_reducible refine below_sc ?_ ?_ _; · (first | (simp; done) | (simp; omega) | omega))))⟩

set_option maxRecDepth 100000 in
set_option maxHeartbeats 2000000 in
theorem text_no (s : ByteArray) (w : World) (h : ¬ s.size ≤ 4096) : Calls Tryd.prog 71 #[.string s] w fun e w' => e = .panicked (flt 12) ∧ Below w.heap.size w w' := by
  have h0 := ofText_c s
  simp only [if_neg h] at h0
  have H := Lib.hid h0; clear h0
  go_enter Tryd.func71, Tryd.ntmps71
  go_wp2_with (first | (go_at_call 11; refine (H.out _).mono ?_; rintro e w' ⟨rfl, hb⟩; (try (replace hb := below_undrew hb)); (try (replace hb := below_undrewN hb)); obtain ⟨hc, hf⟩ := bcell hb; (try (have hz0 : w.heap.size < w'.heap.size := (by have := hb.size; (try simp at this); omega))); (try (have hz1 : w.heap.size + 1 < w'.heap.size := (by have := hb.size; (try simp at this); omega))); (try (have hz2 : w.heap.size + 2 < w'.heap.size := (by have := hb.size; (try simp at this); omega))); (try (have hz3 : w.heap.size + 3 < w'.heap.size := (by have := hb.size; (try simp at this); omega)))) | (go_at_call 65; refine (must_f _ _).mono ?_; rintro e w' ⟨rfl, rfl⟩))
  exact ⟨rfl, rfl, (by repeat (first | (with_reducible exact Below.refl _ _) | (with_reducible refine below_al ?_ _) | (with_reducible refine below_drewN ?_ _) | (with_reducible refine Below.drew ?_) | (with_reducible refine below_via (by assumption) ?_) | (with_reducible refine below_sc ?_ ?_ _; · (first | (simp; done) | (simp; omega) | omega))))⟩

set_option maxRecDepth 100000 in
set_option maxHeartbeats 2000000 in
theorem size_c (n : Int) (w : World) (h : I64 n) : Calls Tryd.prog 100 #[.int .i64 n] w fun e w' => e = .returned (.int .u64 n.natAbs) ∧ w = w' := by
  obtain ⟨h1, h2⟩ := h
  by_cases hn : n < 0
  · go_enter Tryd.func100, Tryd.ntmps100
    go_wp2_with fail
    go_ret
    refine ⟨?_, rfl⟩
    have hw : IntKind.u64.wrap (-IntKind.u64.wrap n) = n.natAbs := by
      simp only [IntKind.wrap_u64]
      omega
    simp [hw]
  · go_enter Tryd.func100, Tryd.ntmps100
    go_wp2_with fail
    go_ret
    refine ⟨?_, rfl⟩
    have hw : n = n.natAbs := by omega
    simp [← hw]

set_option maxRecDepth 100000 in
set_option maxHeartbeats 2000000 in
theorem compared_c (code c : Int) (w : World) : Calls Tryd.prog 70 #[.int .i64 code, .int .i64 c] w fun e w' => e = .returned (.bool (if code == 16 then c == 0 else if code == 17 then c != 0 else if code == 18 then decide (c < 0) else if code == 19 then decide (c ≤ 0) else if code == 20 then decide (0 < c) else decide (0 ≤ c))) ∧ w = w' := by
  go_enter Tryd.func70, Tryd.ntmps70
  go_wp2_with fail
  all_goals (go_ret; refine ⟨?_, rfl⟩; congr 2; try simp [*])

set_option maxRecDepth 100000 in
set_option maxHeartbeats 2000000 in
theorem fits_c (code k : Int) (w : World) : Calls Tryd.prog 69 #[.int .i64 code, .int .i64 k] w fun e w' => e = .returned (.bool (if k == 0 || (decide (16 ≤ code) && decide (code ≤ 21)) then true else if code == 15 then k == 4 else if code == 14 then k == 2 else k == 2 || k == 3)) ∧ w = w' := by
  by_cases c0 : k = 0 <;> by_cases c1 : 16 ≤ code <;> by_cases c2 : code ≤ 21 <;> by_cases c3 : k = 2
  all_goals
    go_enter Tryd.func69, Tryd.ntmps69
    go_wp2_with fail
    all_goals (go_ret; refine ⟨?_, rfl⟩; congr 2; try (simp [*]; try (intros; omega)))

theorem outI_ret {r : Except Int Int} {w : World} {x : Int} (h : r = .ok x) : OutI r w (.returned (.int .i64 x)) w := by subst h; exact ⟨rfl, rfl⟩
theorem outI_pan {r : Except Int Int} {w : World} {c : Int} (h : r = .error c) : OutI r w (.panicked (flt c)) w := by subst h; exact ⟨rfl, rfl⟩
theorem outV_ret {r : Except Int V} {w w' : World} {x : V} (h : r = .ok x) (hb : Below w.heap.size w w') : OutV r w (.returned (.agg #[.int .i64 x.k, .int .i64 x.n, .int .u64 x.f, .string x.t])) w' := by subst h; exact ⟨rfl, hb⟩
theorem outV_pan {r : Except Int V} {w w' : World} {c : Int} (h : r = .error c) (hb : Below w.heap.size w w') : OutV r w (.panicked (flt c)) w' := by subst h; exact ⟨rfl, hb⟩

/-- a sum or a difference, if it is a number of 64 bits -/
def fitI (x : Int) : Except Int Int := if -9223372036854775808 ≤ x ∧ x ≤ 9223372036854775807 then .ok x else .error 11

theorem fitI_ok {x y : Int} (h1 : -9223372036854775808 ≤ x) (h2 : x ≤ 9223372036854775807) (h : y = x) : fitI x = .ok y := by rw [h, fitI, if_pos ⟨h1, h2⟩]
theorem fitI_no {x : Int} (h : x < -9223372036854775808 ∨ 9223372036854775807 < x) : fitI x = .error 11 := by rw [fitI, if_neg (by omega)]

set_option maxRecDepth 100000 in
set_option maxHeartbeats 2000000 in
theorem sum_c (a b : Int) (less : Bool) (w : World) (ha : I64 a) (hb : I64 b) : Calls Tryd.prog 89 #[.int .i64 a, .int .i64 b, .bool less] w (OutI (fitI (if less then a - b else a + b)) w) := by
  obtain ⟨a1, a2⟩ := ha
  obtain ⟨b1, b2⟩ := hb
  cases less
  all_goals
    by_cases c1 : 0 ≤ a <;> by_cases c2 : 0 ≤ b
  all_goals
    go_enter Tryd.func89, Tryd.ntmps89
    go_wp2_with (first | (go_at_call 65; ((with_reducible refine (must_t _ _).mono ?_); rintro e w' ⟨rfl, rfl⟩)) | (go_at_call 65; ((with_reducible refine (must_f _ _).mono ?_); rintro e w' ⟨rfl, rfl⟩)) | (go_at_call 65; refine (must_c _ _ _).mono ?_; rintro e w' ⟨(⟨hm, rfl⟩ | ⟨hm, rfl⟩), rfl⟩))
    all_goals first
      | (exfalso; simp at hm; done)
      | (go_ret; (try simp [wrap64] at hm); refine outI_ret (fitI_ok ?_ ?_ ?_) <;> (try simp only [wrap64]) <;> omega)
      | exact ⟨rfl, outI_pan (fitI_no (by simp [wrap64] at hm; omega))⟩

set_option maxRecDepth 100000 in
set_option maxHeartbeats 2000000 in
theorem product_c (a b : Int) (w : World) (ha : I64 a) (hb : I64 b) : Calls Tryd.prog 90 #[.int .i64 a, .int .i64 b] w (OutI (fitI (a * b)) w) := by
  have ha' := ha
  have hb' := hb
  obtain ⟨a1, a2⟩ := ha
  obtain ⟨b1, b2⟩ := hb
  have hm64 := Tryd.bits_Mul64 a.natAbs b.natAbs (by omega) (by omega)
  have H := Lib.hid hm64; clear hm64
  have hs : (a < 0 ∧ b < 0 ∨ 0 ≤ a ∧ 0 ≤ b) ∧ (a.natAbs : Int) * (b.natAbs : Int) = a * b ∨ (a < 0 ∧ 0 ≤ b ∨ 0 ≤ a ∧ b < 0) ∧ (a.natAbs : Int) * (b.natAbs : Int) = -(a * b) := by
    rcases Int.lt_or_le a 0 with c1 | c1 <;> rcases Int.lt_or_le b 0 with c2 | c2
    · exact .inl ⟨.inl ⟨c1, c2⟩, by rw [show (a.natAbs : Int) = -a by omega, show (b.natAbs : Int) = -b by omega, Int.neg_mul_neg]⟩
    · exact .inr ⟨.inl ⟨c1, c2⟩, by rw [show (a.natAbs : Int) = -a by omega, show (b.natAbs : Int) = b by omega, Int.neg_mul]⟩
    · exact .inr ⟨.inr ⟨c1, c2⟩, by rw [show (a.natAbs : Int) = a by omega, show (b.natAbs : Int) = -b by omega, Int.mul_neg]⟩
    · exact .inl ⟨.inr ⟨c1, c2⟩, by rw [show (a.natAbs : Int) = a by omega, show (b.natAbs : Int) = b by omega]⟩
  have hpos : 0 ≤ (a.natAbs : Int) * (b.natAbs : Int) := Int.mul_nonneg (by omega) (by omega)
  rcases hs with ⟨⟨c1, c2⟩ | ⟨c1, c2⟩, h⟩ | ⟨⟨c1, c2⟩ | ⟨c1, c2⟩, h⟩
  all_goals
    have HP := Lib.hid h; clear h
    (first | have d1 : decide (a < 0) = true := by (simp; omega) | have d1 : decide (a < 0) = false := by (simp; omega))
    (first | have d2 : decide (b < 0) = true := by (simp; omega) | have d2 : decide (b < 0) = false := by (simp; omega))
    go_enter Tryd.func90, Tryd.ntmps90
    go_wp2_with (first | (go_at_call 65; ((with_reducible refine (must_t _ _).mono ?_); rintro e w' ⟨rfl, rfl⟩)) | (go_at_call 65; ((with_reducible refine (must_f _ _).mono ?_); rintro e w' ⟨rfl, rfl⟩)) | (go_at_call 65; refine (must_c _ _ _).mono ?_; rintro e w' ⟨(⟨hm, rfl⟩ | ⟨hm, rfl⟩), rfl⟩) | (go_at_call 100; refine (size_c _ _ (by assumption)).mono ?_; rintro e w' ⟨rfl, rfl⟩) | (go_at_call 82; refine (H.out _).mono ?_; rintro e w' ⟨rfl, rfl⟩))
    all_goals
      have hp := HP.out
      simp only [hp] at *
      generalize a * b = p at *
    all_goals first
      | (exfalso; simp at hm; done)
      | (go_ret; (try simp [wrap64] at hm); refine outI_ret (fitI_ok ?_ ?_ ?_) <;> (try simp only [wrap64, IntKind.wrap_u64]) <;> omega)
      | exact ⟨rfl, outI_pan (fitI_no (by (try simp [wrap64] at hm); omega))⟩

/-- two whole numbers -/
def intsS (code a b : Int) : Except Int Int :=
  if code == 10 then fitI (a + b) else if code == 11 then fitI (a - b) else if code == 12 then fitI (a * b)
  else if b == 0 then .error 10 else if code == 14 then .ok (a.tmod b) else fitI (a.tdiv b)

theorem outI_bind {r : Except Int Int} {w w' : World} {e : Ending} (h : OutI r w e w') : (∃ x, r = .ok x ∧ e = .returned (.int .i64 x) ∧ w = w') ∨ (∃ c, r = .error c ∧ e = .panicked (flt c) ∧ w = w') := by
  obtain ⟨h1, h2⟩ := h
  cases r with
  | ok x => exact .inl ⟨x, rfl, h1, h2⟩
  | error c => exact .inr ⟨c, rfl, h1, h2⟩

theorem tdiv_range {a b : Int} (ha : I64 a) (h1 : ¬ b = -1) (h0 : ¬ b = 0) : I64 (a.tdiv b) := by
  obtain ⟨a1, a2⟩ := ha
  have hn : (a.tdiv b).natAbs = a.natAbs / b.natAbs := Int.natAbs_tdiv a b
  by_cases hb : b = 1
  · subst hb; simpa using ⟨a1, a2⟩
  · have : a.natAbs / b.natAbs ≤ a.natAbs / 2 := Nat.div_le_div_left (by omega) (by omega)
    constructor <;> omega

theorem wrap64_in {x : Int} (h : I64 x) : wrap64 x = x := by
  obtain ⟨h1, h2⟩ := h
  simp only [wrap64]
  omega

theorem tdiv_neg_one (a : Int) : a.tdiv (-1) = -a := by simp
theorem tmod_neg_one (a : Int) : a.tmod (-1) = 0 := by simp

set_option maxRecDepth 100000 in
set_option maxHeartbeats 2000000 in
theorem ints_c (code a b : Int) (w : World) (ha : I64 a) (hb : I64 b) : Calls Tryd.prog 74 #[.int .i64 code, .int .i64 a, .int .i64 b] w (OutI (intsS code a b) w) := by
  have ha' := ha
  have hb' := hb
  obtain ⟨a1, a2⟩ := ha
  obtain ⟨b1, b2⟩ := hb
  rcases Decidable.em (b = -1) with rfl | hb1
  · have hneg : I64 (-1) := ⟨by decide, by decide⟩
    go_enter Tryd.func74, Tryd.ntmps74
    go_wp2_with (first | (go_at_call 65; ((with_reducible refine (must_t _ _).mono ?_); rintro e w' ⟨rfl, rfl⟩)) | (go_at_call 65; ((with_reducible refine (must_f _ _).mono ?_); rintro e w' ⟨rfl, rfl⟩)) | (go_at_call 65; refine (must_c _ _ _).mono ?_; rintro e w' ⟨(⟨hm, rfl⟩ | ⟨hm, rfl⟩), rfl⟩) | (go_at_call 89; refine (sum_c _ _ _ _ (by assumption) (by assumption)).mono ?_; rintro e w' h; rcases outI_bind h with ⟨x, hx, rfl, rfl⟩ | ⟨x, hx, rfl, rfl⟩) | (go_at_call 90; refine (product_c _ _ _ (by assumption) (by assumption)).mono ?_; rintro e w' h; rcases outI_bind h with ⟨x, hx, rfl, rfl⟩ | ⟨x, hx, rfl, rfl⟩))
    all_goals first
      | (exfalso; simp at hm; done)
      | (go_ret; refine outI_ret ?_; simp_all [intsS]; done)
      | (refine ⟨rfl, outI_pan ?_⟩; simp_all [intsS]; done)
      | (exfalso; simp_all; done)
  · go_enter Tryd.func74, Tryd.ntmps74
    go_wp2_with (first | (go_at_call 65; ((with_reducible refine (must_t _ _).mono ?_); rintro e w' ⟨rfl, rfl⟩)) | (go_at_call 65; ((with_reducible refine (must_f _ _).mono ?_); rintro e w' ⟨rfl, rfl⟩)) | (go_at_call 65; refine (must_c _ _ _).mono ?_; rintro e w' ⟨(⟨hm, rfl⟩ | ⟨hm, rfl⟩), rfl⟩) | (go_at_call 89; refine (sum_c _ _ _ _ (by assumption) (by assumption)).mono ?_; rintro e w' h; rcases outI_bind h with ⟨x, hx, rfl, rfl⟩ | ⟨x, hx, rfl, rfl⟩) | (go_at_call 90; refine (product_c _ _ _ (by assumption) (by assumption)).mono ?_; rintro e w' h; rcases outI_bind h with ⟨x, hx, rfl, rfl⟩ | ⟨x, hx, rfl, rfl⟩))
    all_goals first
      | (exfalso; simp at hm; done)
      | (go_ret; refine outI_ret ?_; simp_all [intsS]; done)
      | (refine ⟨rfl, outI_pan ?_⟩; simp_all [intsS]; done)
      | (exfalso; simp_all; done)
      | (have hr := tdiv_range ha' hb1 (by assumption)
         go_ret; refine outI_ret ?_
         rw [intsS, if_neg (by simp [*]), if_neg (by simp [*]), if_neg (by simp [*]), if_neg (by simp [*]), if_neg (by simp [*])]
         exact fitI_ok hr.1 hr.2 (wrap64_in hr))

/-- what a float step answers, made plain -/
def fRes : Option Nat → Int
  | some r => plainI r
  | none => 9221120237041090560
def floatS (code : Int) (x y : Nat) : Int :=
  fRes (if code == 10 then Ieee.double.add x y else if code == 11 then Ieee.double.sub x y else if code == 12 then Ieee.double.mul x y else Ieee.double.div x y)

end Go.Proofs.YtjnkkjeneomckaaDoor
