/- Plain laws of floats: sums and products do not hang on the order, a NaN goes through, x - y is the negative of y - x. -/
import Derived.Test.YtjnkkjeneomckaaDoorVP3
namespace Go.Proofs.YtjnkkjeneomckaaDoor
set_option linter.unusedVariables false
set_option linter.unusedSimpArgs false
open Go.RowKit Ieee

theorem sum_comm (a b : Datum) : a.sum b = b.sum a := by
  cases a <;> cases b <;> simp only [Datum.sum]
  · rename_i s m i t n j
    rw [Int.min_comm j i, Int.add_comm (signed t n _), Bool.and_comm t s]
  · rename_i s t
    by_cases h : s = t
    · subst h; rfl
    · rw [if_neg h, if_neg (fun e => h e.symm)]
theorem product_comm (a b : Datum) : a.product b = b.product a := by
  cases a <;> cases b <;> simp only [Datum.product]
  · rename_i s m i t n j
    rw [Bool.xor_comm, Nat.mul_comm, Int.add_comm]
  · rename_i s t
    rw [Bool.xor_comm]

theorem floatS_comm (x y : Nat) : floatS 10 x y = floatS 10 y x ∧ floatS 12 x y = floatS 12 y x := by
  constructor
  · simp only [floatS, Format.add, sum_comm (double.read x)]; rfl
  · simp only [floatS, Format.mul, product_comm (double.read x)]; rfl

theorem read_nanW : double.read 9221120237041090560 = .nan false 2251799813685248 := by decide +kernel
theorem floatS_nan (c : Int) (x : Nat) : floatS c x 9221120237041090560 = 9221120237041090560 := by
  have h1 : ∀ (s : Bool) (d : Datum), d.sum (.nan s 2251799813685248) = none := fun s d => by cases d <;> rfl
  have h2 : ∀ d : Datum, d.product (.nan false 2251799813685248) = none := fun d => by cases d <;> rfl
  have h3 : ∀ (n : Nat) (d : Datum), d.quotient n (.nan false 2251799813685248) = none := fun n d => by cases d <;> rfl
  unfold floatS
  split
  · simp [Format.add, read_nanW, h1, fRes]
  · split
    · simp [Format.sub, read_nanW, Datum.opposite, h1, fRes]
    · split
      · simp [Format.mul, read_nanW, h2, fRes]
      · simp [Format.div, read_nanW, h3, fRes]

theorem plain_ne (b : Int) : (plainI b == 9223372036854775808) = false := by
  unfold plainI
  split
  · rfl
  · split
    · rfl
    · rename_i h; simpa using h
theorem floatS_ne (c : Int) (x y : Nat) : (floatS c x y == 9223372036854775808) = false := by
  unfold floatS
  generalize (if c == 10 then _ else _ : Option Nat) = r
  cases r with
  | none => rfl
  | some v => exact plain_ne v

theorem cut_neg (s : Bool) (n d : Nat) : Toward.even.cut s n d = Toward.even.cut false n d := rfl

theorem write_neg (s : Bool) (m : Nat) (p : Int) : ∃ r, double.nearest s m p = double.word s r ∧ double.nearest (!s) m p = double.word (!s) r ∧ r ≤ 9218868437227405312 := by
  unfold Format.nearest
  by_cases h : m = 0
  · exact ⟨0, by simp [h], by simp [h], by decide⟩
  · simp only [if_neg h]
    refine ⟨_, rfl, ?_, Nat.min_le_right _ _⟩
    rw [cut_neg s, cut_neg (!s)]

theorem xor_top {r : Nat} (hr : r < 9223372036854775808) : r ^^^ 2 ^ 63 = 2 ^ 63 + r := by
  apply Nat.eq_of_testBit_eq
  intro i
  rw [Nat.testBit_xor, Nat.testBit_two_pow]
  rcases Nat.lt_trichotomy i 63 with h | h | h
  · rw [Nat.testBit_two_pow_add_gt h]
    have : ¬ 63 = i := by omega
    simp [this]
  · subst h
    rw [Nat.testBit_two_pow_add_eq]; simp
  · have h1 : r < 2 ^ i := Nat.lt_of_lt_of_le hr (Nat.pow_le_pow_right (n := 2) (by decide) (by omega : 63 ≤ i))
    have h2 : 2 ^ 63 + r < 2 ^ i := Nat.lt_of_lt_of_le (by omega : 2 ^ 63 + r < 2 ^ 64) (Nat.pow_le_pow_right (n := 2) (by decide) (by omega : 64 ≤ i))
    rw [Nat.testBit_lt_two_pow h1, Nat.testBit_lt_two_pow h2]
    have : ¬ 63 = i := by omega
    simp [this]

/-- the sign turned -/
theorem neg_word (s : Bool) (r : Nat) (hr : r ≤ 9218868437227405312) : Op.negFloat .f64 (double.word s r) = double.word (!s) r := by
  have h : Op.negFloat .f64 (double.word s r) = double.word s r ^^^ 2 ^ 63 := rfl
  rw [h]
  cases s
  · show r ^^^ 2 ^ 63 = 2 ^ 63 + r
    exact xor_top (by omega)
  · show (2 ^ 63 + r) ^^^ 2 ^ 63 = r
    rw [← xor_top (by omega), Nat.xor_assoc, Nat.xor_self, Nat.xor_zero]

theorem fRes_inf (s : Bool) : fRes (some (double.word s 9218868437227405312)) = plainI (Op.negFloat .f64 (fRes (some (double.word (!s) 9218868437227405312))).toNat) := by cases s <;> decide +kernel
theorem fRes_zero (s t : Bool) : fRes (some (double.word s 0)) = plainI (Op.negFloat .f64 (fRes (some (double.word t 0))).toNat) := by cases s <;> cases t <;> decide +kernel
theorem fRes_none : fRes none = plainI (Op.negFloat .f64 (fRes none).toNat) := by decide +kernel

/-- a word that is no NaN and no -0 is plain -/
theorem plain_word (s : Bool) (r : Nat) (h0 : r ≠ 0) (hr : r ≤ 9218868437227405312) : plainI (double.word s r) = double.word s r := by
  have hw : double.word s r = if s then 9223372036854775808 + r else r := by cases s <;> rfl
  rw [plain_num (by rw [hw, Int.toNat_natCast]; cases s <;> simp <;> omega)]
  rw [if_neg]
  rw [hw]; cases s <;> simp <;> omega
theorem fRes_word (s : Bool) (r : Nat) (h0 : r ≠ 0) (hr : r ≤ 9218868437227405312) : fRes (some (double.word s r)) = plainI (Op.negFloat .f64 (fRes (some (double.word (!s) r))).toNat) := by
  simp only [fRes]
  rw [plain_word _ r h0 hr, plain_word _ r h0 hr, Int.toNat_natCast, neg_word _ _ hr, Bool.not_not, plain_word _ r h0 hr]

theorem fRes_near (s : Bool) (m : Nat) (p : Int) : fRes (some (double.nearest s m p)) = plainI (Op.negFloat .f64 (fRes (some (double.nearest (!s) m p))).toNat) := by
  obtain ⟨r, h1, h2, h3⟩ := write_neg s m p
  rw [h1, h2]
  by_cases h0 : r = 0
  · subst h0; exact fRes_zero _ _
  · exact fRes_word s r h0 h3

theorem signed_not (s : Bool) (m k : Nat) : signed (!s) m k = -(signed s m k) := by cases s <;> simp [signed]

theorem opposite_sum (a b : Datum) (x y : Nat) : (fRes ((a.sum b.opposite).map double.write) = plainI (Op.negFloat .f64 (fRes ((b.sum a.opposite).map double.write)).toNat)) := by
  cases a <;> cases b <;> simp only [Datum.opposite, Datum.sum, Option.map_none, Option.map_some, Format.write]
  all_goals first
    | exact fRes_none
    | skip
  · rename_i s m i t n j
    rw [Int.min_comm j i, signed_not, signed_not]
    generalize signed s m (i - min i j).toNat = X
    generalize signed t n (j - min i j).toNat = Y
    by_cases h : X + -Y = 0
    · have h' : Y + -X = 0 := by omega
      rw [if_pos h, if_pos h', h, h']
      exact fRes_zero _ _
    · have h' : ¬ Y + -X = 0 := by omega
      rw [if_neg h, if_neg h', show (Y + -X).natAbs = (X + -Y).natAbs by omega, show decide (Y + -X < 0) = !decide (X + -Y < 0) by by_cases g : X + -Y < 0 <;> by_cases g' : Y + -X < 0 <;> simp [g, g'] <;> omega]
      exact fRes_near _ _ _
  all_goals first
    | exact fRes_inf _
    | (rename_i s t; cases s <;> cases t <;> first | exact fRes_none | exact fRes_inf _)
    | (rename_i s m i t; cases t <;> exact fRes_inf _)
    | trace_state

theorem sub_neg (x y : Nat) : floatS 11 x y = plainI (Op.negFloat .f64 (floatS 11 y x).toNat) := opposite_sum (double.read x) (double.read y) x y

end Go.Proofs.YtjnkkjeneomckaaDoor
