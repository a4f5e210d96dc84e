/- The smallest functions of val and freshetref01: what they return, whatever memory they are called in. The steps of val over whole numbers and floats: what they return or give up with. Plain facts on floats: their order is that of their rungs; a number cut towards zero is itself a float. Floats: which are NaNs, how they are made plain, compared, added. The steps of val over one value. The steps of val over two values, and the two doors One and Two. How val compares. The step of val over two values. The step of val over two values: the cases behind the logic. The step of val over two values: kinds that don't fit, and NULL. The step of val over two values: comparisons, texts, floats, whole numbers. The step of val over two values, whole. The two doors One and Two: a step that gives up is caught. -/
import Derived.Test.YthpkjkcfhipjhaaGreatDoorRows
import Derived.WalkKit
import Derived.WalkSpells
import Derived.WalkLawsBesides
import Derived.Deep.QuietTactic
import Derived.BigQuiet
import Derived.Laws.Externs
import Derived.Test.YthpkjkcfhipjhaaGreatDoorShelf
import Derived.Lib.AppendIntMem
import Derived.Lib.ItoaLen
import Derived.Recover
import Derived.Deep.RegionHeld3
import Derived.Deep.RegionWith
import Derived.RegionTactic
import Derived.BigRegion
namespace Go.Proofs.YthpkjkcfhipjhaaGreatDoor
set_option linter.unusedVariables false
set_option linter.unusedSimpArgs false
open Go.RowKit

theorem run_frombits (b : Int) (w : World) : (callFunc 112 #[.int .u64 b]).run Tryz.prog w = .ok (.value (.float .f64 b.toNat)) w := by
  rw [run_callFunc_extern (e := Extern.MathFloatBits.float64frombits) Tryz.func112 (by kernel_rfl) (by kernel_rfl) (by kernel_rfl) (by kernel_rfl)]
  rfl
/-- not equal to itself: a NaN -/
def fNaN (b : Int) : Bool := FloatKind.f64.format.order b.toNat b.toNat != some .eq
def plainI (b : Int) : Int := if fNaN b then 0x7ff8000000000000 else if b == 0x8000000000000000 then 0 else b

set_option maxRecDepth 100000 in
set_option maxHeartbeats 400000 in
theorem plain_c (b : Int) (w : World) :
    Calls Tryz.prog 88 #[.int .u64 b] w fun e w' => e = .returned (.int .u64 (plainI b)) ∧ w' = w := by
  have h1 := run_frombits
  go_enter Tryz.func88, Tryz.ntmps88
  go_wp2_with fail
  all_goals
    go_ret
    refine ⟨?_, rfl⟩
    congr 2
    simp [plainI, fNaN, *]

/-- equality of two values -/
def eqV (k n f : Int) (t : ByteArray) (k' n' f' : Int) (t' : ByteArray) : Bool := k == k' && n == n' && f == f' && decide (t = t')

theorem toList_inj (a b : ByteArray) : a.toList = b.toList ↔ a = b := by
  rw [ByteArray.toList_eq, ByteArray.toList_eq]
  constructor
  · intro e
    have : a.data = b.data := Array.toList_inj.1 e
    cases a; cases b; cases this; rfl
  · rintro rfl; rfl

theorem run_eqV (k n f : Int) (t : ByteArray) (k' n' f' : Int) (t' : ByteArray) (w : World) :
    (binOp .eql 64 (.agg #[.int .i64 k, .int .i64 n, .int .u64 f, .string t]) (.agg #[.int .i64 k', .int .i64 n', .int .u64 f', .string t'])).run Tryz.prog w = .ok (.bool (eqV k n f t k' n' f' t')) w := by
  simp [go_sem, Tryz.underlying64]
  unfold eqV
  simp only [toList_inj]
  by_cases h1 : k = k' <;> by_cases h2 : n = n' <;> by_cases h3 : f = f' <;> by_cases h4 : t = t' <;> simp [h1, h2, h3, h4]

theorem run_neV (k n f : Int) (t : ByteArray) (k' n' f' : Int) (t' : ByteArray) (w : World) :
    (binOp .neq 64 (.agg #[.int .i64 k, .int .i64 n, .int .u64 f, .string t]) (.agg #[.int .i64 k', .int .i64 n', .int .u64 f', .string t'])).run Tryz.prog w = .ok (.bool (!eqV k n f t k' n' f' t')) w := by
  simp [go_sem, Tryz.underlying64]
  unfold eqV
  simp only [toList_inj]
  by_cases h1 : k = k' <;> by_cases h2 : n = n' <;> by_cases h3 : f = f' <;> by_cases h4 : t = t' <;> simp [h1, h2, h3, h4]

theorem eqV_iff (k n f : Int) (t : ByteArray) (k' n' f' : Int) (t' : ByteArray) : eqV k n f t k' n' f' t' = true ↔ k = k' ∧ n = n' ∧ f = f' ∧ t = t' := by
  simp [eqV, and_assoc]

/-- is it a value? -/
def soundV (k n f : Int) (t : ByteArray) : Bool :=
  if k == 0 then eqV k n f t 0 0 0 ⟨#[]⟩
  else if k == 1 then eqV k n f t 1 n 0 ⟨#[]⟩ && (n == 0 || n == 1)
  else if k == 2 then eqV k n f t 2 n 0 ⟨#[]⟩
  else if k == 3 then eqV k n f t 3 0 f ⟨#[]⟩ && plainI f == f
  else if k == 4 then eqV k n f t 4 0 0 t && decide (t.size ≤ 4096)
  else false

theorem and_one_eq (n : Int) (h1 : -9223372036854775808 ≤ n) (h2 : n ≤ 9223372036854775807) : (n == bits .and .i64 n 1) = (n == 0 || n == 1) := by
  have key : bits .and .i64 n 1 = n % 2 := by
    show IntKind.i64.wrap (((BitVec.ofInt 64 n) &&& (BitVec.ofInt 64 1)).toNat : Int) = n % 2
    rw [BitVec.toNat_and, BitVec.toNat_ofInt, BitVec.toNat_ofInt]
    have e1 : ((1 : Int) % ((2 ^ 64 : Nat) : Int)).toNat = 1 := by decide
    have e2 : ((2 ^ 64 : Nat) : Int) = 18446744073709551616 := by decide
    rw [e1, Nat.and_one_is_mod, e2, IntKind.wrap_i64]
    omega
  rw [key, Bool.eq_iff_iff]
  simp
  omega

theorem bcell {W w1 : World} (hb : Below W.heap.size W w1) : (∀ b o, b < W.heap.size → w1.cell? ⟨b, o, none⟩ = W.cell? ⟨b, o, none⟩) ∧ (∀ b o, b < W.heap.size → w1.frozen? ⟨b, o, none⟩ = W.frozen? ⟨b, o, none⟩) :=
  ⟨fun b o h => hb.cell (p := ⟨b, o, none⟩) h, fun b o h => hb.frozen (p := ⟨b, o, none⟩) h⟩
theorem below_via {a W w1 : World} (hb : Below W.heap.size W w1) (h : Below a.heap.size a W) : Below a.heap.size a w1 := h.trans (hb.mono h.size)
theorem below_al {a w : World} (h : Below a.heap.size a w) (o : Obj) : Below a.heap.size a (w.alloc o) := h.alloc h.size o
theorem below_sc {B : Nat} {a w : World} {p : Addr} (hp : B ≤ p.block) (h : Below B a w) (u : Value) : Below B a (w.setCell p u) := h.setCell hp u
theorem below_al2 {B : Nat} {a w : World} (hB : B ≤ w.heap.size) (h : Below B a w) (o : Obj) : Below B a (w.alloc o) := h.alloc hB o
theorem below_undrew {w w' : World} (h : Below w.drew.heap.size w.drew w') : Below w.heap.size w w' := ⟨h.os, h.tape, h.output, h.size, h.block⟩
theorem below_undrewN {w w' : World} {n : Nat} (h : Below (w.drewN n).heap.size (w.drewN n) w') : Below w.heap.size w w' := ⟨h.os, h.tape, h.output, h.size, h.block⟩
theorem below_box (w : World) (o : Obj) : Below w.heap.size w (w.alloc o) := (Below.refl _ _).alloc (Nat.le_refl _) _
theorem below_box_drewN (w : World) (o : Obj) (n : Nat) : Below w.heap.size w ((w.alloc o).drewN n) := below_drewN (below_box w o) n

/-- a whole number of 64 bits -/
def I64 (n : Int) : Prop := -9223372036854775808 ≤ n ∧ n ≤ 9223372036854775807
def U64 (n : Int) : Prop := 0 ≤ n ∧ n < 18446744073709551616

theorem cast_le_4096 (a : Nat) : ((a : Int) ≤ 4096) = (a ≤ 4096) := propext ⟨fun h => by omega, fun h => by omega⟩

set_option maxRecDepth 100000 in
set_option maxHeartbeats 400000 in
theorem sound_c (k n f : Int) (t : ByteArray) (w : World) (hn : I64 n) :
    Calls Tryz.prog 67 #[.agg #[.int .i64 k, .int .i64 n, .int .u64 f, .string t]] w fun e w' => e = .returned (.bool (soundV k n f t)) ∧ Below w.heap.size w w' := by
  have h1 := run_eqV
  have h2 := and_one_eq n hn.1 hn.2
  go_enter Tryz.func67, Tryz.ntmps67
  go_wp2_with fail
  any_goals (go_quiet ((go_at_call 88; exact Calls.quiet_of_same (plain_c _ _))))
  all_goals try go_wp2_with fail
  all_goals (clear h1; go_ret; refine ⟨?_, by first | exact below_box _ _ | exact below_box_drewN _ _ _⟩; congr 2; first | (simp [soundV, eqV, cast_le_4096, *]; done) | (simp [soundV, eqV, *, Bool.beq_comm (a := f), Bool.and_assoc, Bool.and_comm]; done) | (simp_all [soundV, eqV, cast_le_4096]; done) | skip)

def b2i (b : Bool) : Int := if b then 1 else 0

set_option maxRecDepth 100000 in
set_option maxHeartbeats 400000 in
theorem float_c (k n f : Int) (t : ByteArray) (w : World) : Calls Tryz.prog 92 #[.agg #[.int .i64 k, .int .i64 n, .int .u64 f, .string t]] w fun e w' => e = .returned (.float .f64 f.toNat) ∧ Below w.heap.size w w' := by
  have h1 := run_frombits
  go_enter Tryz.func92, Tryz.ntmps92
  go_wp2_with fail
  go_ret
  exact ⟨rfl, below_box _ _⟩

end Go.Proofs.YthpkjkcfhipjhaaGreatDoor

namespace Go.Proofs.YthpkjkcfhipjhaaGreatDoor
set_option linter.unusedVariables false
set_option linter.unusedSimpArgs false
open Go.RowKit

/-- A value. -/
structure V where
  k : Int
  n : Int
  f : Int
  t : ByteArray

/-- a sum or a difference, if it is a number of 64 bits -/
def fitI (x : Int) : Except Int Int := if -9223372036854775808 ≤ x ∧ x ≤ 9223372036854775807 then .ok x else .error 11

theorem fitI_ok {x y : Int} (h1 : -9223372036854775808 ≤ x) (h2 : x ≤ 9223372036854775807) (h : y = x) : fitI x = .ok y := by rw [h, fitI, if_pos ⟨h1, h2⟩]
theorem fitI_no {x : Int} (h : x < -9223372036854775808 ∨ 9223372036854775807 < x) : fitI x = .error 11 := by rw [fitI, if_neg (by omega)]

/-- two whole numbers -/
def intsS (code a b : Int) : Except Int Int :=
  if code == 10 then fitI (a + b) else if code == 11 then fitI (a - b) else if code == 12 then fitI (a * b)
  else if b == 0 then .error 10 else if code == 14 then .ok (a.tmod b) else fitI (a.tdiv b)

theorem tdiv_range {a b : Int} (ha : I64 a) (h1 : ¬ b = -1) (h0 : ¬ b = 0) : I64 (a.tdiv b) := by
  obtain ⟨a1, a2⟩ := ha
  have hn : (a.tdiv b).natAbs = a.natAbs / b.natAbs := Int.natAbs_tdiv a b
  by_cases hb : b = 1
  · subst hb; simpa using ⟨a1, a2⟩
  · have : a.natAbs / b.natAbs ≤ a.natAbs / 2 := Nat.div_le_div_left (by omega) (by omega)
    constructor <;> omega

theorem wrap64_in {x : Int} (h : I64 x) : wrap64 x = x := by
  obtain ⟨h1, h2⟩ := h
  simp only [wrap64]
  omega

theorem tdiv_neg_one (a : Int) : a.tdiv (-1) = -a := by simp
theorem tmod_neg_one (a : Int) : a.tmod (-1) = 0 := by simp

/-- what a float step answers, made plain -/
def fRes : Option Nat → Int
  | some r => plainI r
  | none => 9221120237041090560
def floatS (code : Int) (x y : Nat) : Int :=
  fRes (if code == 10 then Ieee.double.add x y else if code == 11 then Ieee.double.sub x y else if code == 12 then Ieee.double.mul x y else Ieee.double.div x y)

end Go.Proofs.YthpkjkcfhipjhaaGreatDoor

namespace Go.Proofs.YthpkjkcfhipjhaaGreatDoor
set_option linter.unusedVariables false
set_option linter.unusedSimpArgs false
open Ieee

theorem signed_shift (s : Bool) (m a b : Nat) : signed s m (a + b) = signed s m a * (2 ^ b : Nat) := by
  unfold signed
  cases s <;> simp [Nat.shiftLeft_eq, Nat.pow_add, Int.mul_assoc, Int.neg_mul]

theorem cmp_scale (x y : Int) (k : Nat) (hk : 0 < k) : compare (x * (k : Int)) (y * (k : Int)) = compare x y := by
  have h : ((0 : Int) < k) := by omega
  rcases Int.lt_trichotomy x y with h1 | h1 | h1
  · have : x * (k : Int) < y * k := Int.mul_lt_mul_of_pos_right h1 h
    rw [Int.compare_eq_lt.2 h1, Int.compare_eq_lt.2 this]
  · rw [h1]; simp
  · have : y * (k : Int) < x * k := Int.mul_lt_mul_of_pos_right h1 h
    rw [Int.compare_eq_gt.2 h1, Int.compare_eq_gt.2 this]

theorem order_numbers (s t : Bool) (m n : Nat) (i j : Int) (hi : -1074 ≤ i) (hj : -1074 ≤ j) :
    Datum.order (.number s m i) (.number t n j) = some (compare (signed s m (i + 1074).toNat) (signed t n (j + 1074).toNat)) := by
  simp only [Datum.order]
  have e1 : (i + 1074).toNat = (i - min i j).toNat + (min i j + 1074).toNat := by omega
  have e2 : (j + 1074).toNat = (j - min i j).toNat + (min i j + 1074).toNat := by omega
  rw [e1, e2, signed_shift, signed_shift, cmp_scale _ _ _ (Nat.two_pow_pos _)]

/-- what a rung stands for, in units of the least place -/
def rval (r : Nat) : Nat := if r < 4503599627370496 then r else (4503599627370496 + r % 4503599627370496) <<< (r / 4503599627370496 - 1)

theorem rval_succ (r : Nat) : rval r < rval (r + 1) := by
  unfold rval
  by_cases h1 : r + 1 < 4503599627370496
  · rw [if_pos (by omega), if_pos h1]; omega
  · rw [if_neg h1]
    by_cases h2 : r < 4503599627370496
    · rw [if_pos h2]
      have : r = 4503599627370495 := by omega
      subst this; decide
    · rw [if_neg h2]
      by_cases h3 : (r + 1) % 4503599627370496 = 0
      · have e1 : r % 4503599627370496 = 4503599627370495 := by omega
        have e2 : (r + 1) / 4503599627370496 - 1 = (r / 4503599627370496 - 1) + 1 := by omega
        rw [h3, e1, e2, Nat.shiftLeft_eq, Nat.shiftLeft_eq, Nat.pow_succ]
        have := Nat.two_pow_pos (r / 4503599627370496 - 1)
        generalize 2 ^ (r / 4503599627370496 - 1) = p at *
        omega
      · have e1 : (r + 1) % 4503599627370496 = r % 4503599627370496 + 1 := by omega
        have e2 : (r + 1) / 4503599627370496 = r / 4503599627370496 := by omega
        rw [e1, e2, Nat.shiftLeft_eq, Nat.shiftLeft_eq]
        exact Nat.mul_lt_mul_of_pos_right (by omega) (Nat.two_pow_pos _)

theorem rval_lt {a b : Nat} (h : a < b) : rval a < rval b := by
  induction b with
  | zero => omega
  | succ b ih =>
    by_cases e : a = b
    · subst e; exact rval_succ a
    · exact Nat.lt_trans (ih (by omega)) (rval_succ b)

theorem rval_cmp (a b : Nat) : compare (rval a) (rval b) = compare a b := by
  rcases Nat.lt_trichotomy a b with h | h | h
  · rw [Nat.compare_eq_lt.2 h, Nat.compare_eq_lt.2 (rval_lt h)]
  · rw [h, Nat.compare_eq_eq.2 rfl, Nat.compare_eq_eq.2 rfl]
  · rw [Nat.compare_eq_gt.2 h, Nat.compare_eq_gt.2 (rval_lt h)]

def negW (x : Nat) : Bool := x / 9223372036854775808 % 2 == 1
def rungW (x : Nat) : Nat := x % 9223372036854775808

/-- the place of a word that is no NaN in the order of floats -/
def sr (x : Nat) : Int := if negW x then -(rungW x : Int) else rungW x

theorem read_fin {x : Nat} (h : rungW x < 9218868437227405312) : ∃ m i, double.read x = .number (negW x) m i ∧ -1074 ≤ i ∧ i ≤ 971 ∧ m <<< (i + 1074).toNat = rval (rungW x) ∧ m < 9007199254740992 := by
  unfold Format.read
  have s : double.signWeight = 9223372036854775808 := by decide
  have b : double.binade = 4503599627370496 := by decide
  have f : double.infRung = 9218868437227405312 := by decide
  have l : double.leastPlace = -1074 := by decide
  simp only [s, b, f, l]
  change rungW x < _ at h
  unfold rungW at h ⊢
  unfold negW
  generalize hr : x % 9223372036854775808 = r at *
  by_cases h1 : r < 4503599627370496
  · rw [if_pos h1]
    exact ⟨r, -1074, rfl, by omega, by omega, by simp [rval, h1], by omega⟩
  · rw [if_neg h1, if_pos h]
    refine ⟨_, _, rfl, by omega, by omega, ?_, by omega⟩
    rw [rval, if_neg h1]
    congr 1
    omega

theorem read_inf {x : Nat} (h : rungW x = 9218868437227405312) : double.read x = .infinity (negW x) := by
  unfold Format.read
  have s : double.signWeight = 9223372036854775808 := by decide
  have b : double.binade = 4503599627370496 := by decide
  have f : double.infRung = 9218868437227405312 := by decide
  simp only [s, b, f]
  unfold rungW at h
  rw [h]; rfl

theorem read_nan {x : Nat} (h : 9218868437227405312 < rungW x) : ∃ t, double.read x = .nan (negW x) t := by
  unfold Format.read
  have s : double.signWeight = 9223372036854775808 := by decide
  have b : double.binade = 4503599627370496 := by decide
  have f : double.infRung = 9218868437227405312 := by decide
  simp only [s, b, f]
  unfold rungW at h
  rw [if_neg (by omega), if_neg (by omega), if_neg (by omega)]
  exact ⟨_, rfl⟩

theorem signed_val (s : Bool) (m k : Nat) : signed s m k = if s then -((m <<< k : Nat) : Int) else ((m <<< k : Nat) : Int) := rfl

theorem cmp_neg (a b : Int) : compare (-a) (-b) = compare b a := by
  rcases Int.lt_trichotomy a b with h | h | h
  · rw [Int.compare_eq_gt.2 h, Int.compare_eq_gt.2 (by omega)]
  · rw [h]; simp
  · rw [Int.compare_eq_lt.2 h, Int.compare_eq_lt.2 (by omega)]

theorem order_sr {x y : Nat} (hx : rungW x ≤ 9218868437227405312) (hy : rungW y ≤ 9218868437227405312) : double.order x y = some (compare (sr x) (sr y)) := by
  have hz : rval 0 = 0 := by decide
  have key : ∀ (s t : Bool) (a b : Nat), compare (if s then -((rval a : Nat) : Int) else (rval a : Nat)) (if t then -((rval b : Nat) : Int) else (rval b : Nat)) = compare (if s then -(a : Int) else (a : Int)) (if t then -(b : Int) else (b : Int)) := by
    intro s t a b
    have h1 : a < b → rval a < rval b := rval_lt
    have h2 : b < a → rval b < rval a := rval_lt
    have h3 : 0 < a → 0 < rval a := fun h => by have := rval_lt h; omega
    have h4 : 0 < b → 0 < rval b := fun h => by have := rval_lt h; omega
    have h5 : a = b → rval a = rval b := fun h => by rw [h]
    have h6 : a = 0 → rval a = 0 := fun h => by rw [h, hz]
    have h7 : b = 0 → rval b = 0 := fun h => by rw [h, hz]
    have tri : ∀ (p q p' q' : Int), (p < q → p' < q') → (p = q → p' = q') → (q < p → q' < p') → compare p' q' = compare p q := by
      intro p q p' q' k1 k2 k3
      rcases Int.lt_trichotomy p q with h | h | h
      · rw [Int.compare_eq_lt.2 h, Int.compare_eq_lt.2 (k1 h)]
      · rw [h, k2 h]; simp
      · rw [Int.compare_eq_gt.2 h, Int.compare_eq_gt.2 (k3 h)]
    refine tri _ _ _ _ ?_ ?_ ?_ <;> cases s <;> cases t <;> simp only [if_true, Bool.false_eq_true, if_false] <;> intro h <;> omega
  show Datum.order (double.read x) (double.read y) = _
  unfold sr
  rcases Nat.lt_or_eq_of_le hx with hx | hx <;> rcases Nat.lt_or_eq_of_le hy with hy | hy
  · obtain ⟨m, i, e1, i1, _, v1, _⟩ := read_fin hx
    obtain ⟨n, j, e2, j1, _, v2, _⟩ := read_fin hy
    rw [e1, e2, order_numbers _ _ _ _ _ _ i1 j1, signed_val, signed_val, v1, v2, key]
  · obtain ⟨m, i, e1, _⟩ := read_fin hx
    rw [e1, read_inf hy]
    simp only [Datum.order]
    rw [hy]
    cases negW x <;> cases negW y <;> simp only [if_true, Bool.false_eq_true, if_false] <;> first | rw [Int.compare_eq_lt.2 (by omega)] | rw [Int.compare_eq_gt.2 (by omega)]
  · obtain ⟨m, i, e1, _⟩ := read_fin hy
    rw [e1, read_inf hx]
    simp only [Datum.order]
    rw [hx]
    cases negW x <;> cases negW y <;> simp only [if_true, Bool.false_eq_true, if_false] <;> first | rw [Int.compare_eq_lt.2 (by omega)] | rw [Int.compare_eq_gt.2 (by omega)]
  · rw [read_inf hx, read_inf hy]
    simp only [Datum.order]
    rw [hx, hy]
    cases negW x <;> cases negW y <;> decide

theorem negW_word (s : Bool) {r : Nat} (h : r < 9223372036854775808) : negW (double.word s r) = s := by
  have e : double.signWeight = 9223372036854775808 := by decide
  unfold negW Format.word
  rw [e]
  cases s
  · simp only [Bool.false_eq_true, if_false]
    have : r / 9223372036854775808 = 0 := by omega
    rw [this]; rfl
  · simp only [if_true]
    have : (9223372036854775808 + r) / 9223372036854775808 = 1 := by omega
    rw [this]; rfl
theorem rungW_word (s : Bool) {r : Nat} (h : r < 9223372036854775808) : rungW (double.word s r) = r := by
  have e : double.signWeight = 9223372036854775808 := by decide
  unfold rungW Format.word
  rw [e]
  cases s
  · simp only [Bool.false_eq_true, if_false]; omega
  · simp only [if_true]; omega

theorem cut_exact (s : Bool) (n d q : Nat) (h : n = q * 2 ^ d) : Toward.even.cut s n d = q := by
  have hd : n = 0 ∨ d ≤ n.log2 + 2 := by
    rcases Nat.eq_zero_or_pos n with h0 | h0
    · exact .inl h0
    · right
      have h1 := Nat.lt_log2_self (n := n)
      have hq : 1 ≤ q := by
        rcases Nat.eq_zero_or_pos q with hq | hq
        · rw [hq] at h; omega
        · exact hq
      have h2 : 2 ^ d ≤ n := by rw [h]; exact Nat.le_mul_of_pos_left _ hq
      have h3 : 2 ^ d < 2 ^ (n.log2 + 1) := Nat.lt_of_le_of_lt h2 h1
      have := (Nat.pow_lt_pow_iff_right (by decide : 1 < 2)).1 h3
      omega
  unfold Toward.cut
  simp only [Nat.shiftLeft_eq, Nat.one_mul]
  rcases hd with hd | hd
  · have hq : q = 0 := by
      have hp := Nat.two_pow_pos d
      rcases Nat.eq_zero_or_pos q with hq | hq
      · exact hq
      · have : 0 < q * 2 ^ d := Nat.mul_pos hq hp
        omega
    subst hd; subst hq
    simp
  · rw [Nat.min_eq_left hd]
    have hp := Nat.two_pow_pos d
    have hz : n % 2 ^ d = 0 := by rw [h]; exact Nat.mul_mod_left _ _
    have hv : n / 2 ^ d = q := by rw [h]; exact Nat.mul_div_left _ hp
    rw [hz, hv]
    have : ¬ (2 ^ d = 0) := by omega
    simp [this]

set_option exponentiation.threshold 1100 in
/-- a whole number that is a float is written as itself -/
theorem write_whole (s : Bool) (k e : Nat) (hk : k < 9007199254740992) (he : e ≤ 971) :
    ∃ m i, double.read (double.nearest s (k <<< e) 0) = .number s m i ∧ -1074 ≤ i ∧ signed s m (i + 1074).toNat = signed s (k <<< e) 1074 ∧ rungW (double.nearest s (k <<< e) 0) < 9218868437227405312 := by
  have fin : ∀ (r : Nat), r < 9218868437227405312 → rval r = (k <<< e) <<< 1074 → double.nearest s (k <<< e) 0 = double.word s r →
      ∃ m i, double.read (double.nearest s (k <<< e) 0) = .number s m i ∧ -1074 ≤ i ∧ signed s m (i + 1074).toNat = signed s (k <<< e) 1074 ∧ rungW (double.nearest s (k <<< e) 0) < 9218868437227405312 := by
    intro r hr hv hw
    have h1 := rungW_word s (show r < 9223372036854775808 by omega)
    have h2 := negW_word s (show r < 9223372036854775808 by omega)
    rw [hw]
    obtain ⟨m, i, e1, i1, _, v1, _⟩ := read_fin (x := double.word s r) (by rw [h1]; exact hr)
    rw [h1] at v1
    rw [h2] at e1
    exact ⟨m, i, e1, i1, by rw [signed_val, signed_val, v1, hv], by rw [h1]; exact hr⟩
  by_cases h0 : k <<< e = 0
  · refine fin 0 (by decide) (by rw [h0]; decide) ?_
    unfold Format.nearest
    rw [if_pos h0]
  · have hL1 := Nat.log2_self_le h0
    have hL2 := Nat.lt_log2_self (n := k <<< e)
    have hLe : (k <<< e).log2 ≤ 52 + e := by
      have : k <<< e < 2 ^ (53 + e) := by
        rw [Nat.shiftLeft_eq, Nat.pow_add]
        exact Nat.mul_lt_mul_of_pos_right hk (Nat.two_pow_pos _)
      have h2 := (Nat.log2_lt h0).2 this
      omega
    generalize hc : k <<< e = c at *
    generalize hl : c.log2 = L at *
    have key : ∃ q, 4503599627370496 ≤ q ∧ q < 9007199254740992 ∧ q * 2 ^ L = c * 2 ^ 52 ∧ Toward.even.cut s (c <<< (52 - L)) (L - 52) = q := by
      rcases Nat.le_total L 52 with h | h
      · refine ⟨c * 2 ^ (52 - L), ?_, ?_, ?_, ?_⟩
        · calc 4503599627370496 = 2 ^ L * 2 ^ (52 - L) := by rw [← Nat.pow_add, show L + (52 - L) = 52 by omega]
            _ ≤ _ := Nat.mul_le_mul_right _ hL1
        · calc c * 2 ^ (52 - L) < 2 ^ (L + 1) * 2 ^ (52 - L) := Nat.mul_lt_mul_of_pos_right hL2 (Nat.two_pow_pos _)
            _ = _ := by rw [← Nat.pow_add, show L + 1 + (52 - L) = 53 by omega]
        · rw [Nat.mul_assoc, ← Nat.pow_add, show 52 - L + L = 52 by omega]
        · refine cut_exact _ _ _ _ ?_
          rw [show L - 52 = 0 by omega, Nat.shiftLeft_eq, Nat.pow_zero, Nat.mul_one]
      · have hq : c = k * 2 ^ (e - (L - 52)) * 2 ^ (L - 52) := by
          rw [← hc, Nat.shiftLeft_eq, Nat.mul_assoc, ← Nat.pow_add, show e - (L - 52) + (L - 52) = e by omega]
        generalize k * 2 ^ (e - (L - 52)) = q at hq
        refine ⟨q, ?_, ?_, ?_, ?_⟩
        · have : 2 ^ 52 * 2 ^ (L - 52) ≤ q * 2 ^ (L - 52) := by
            rw [← hq, ← Nat.pow_add, show 52 + (L - 52) = L by omega]; exact hL1
          exact Nat.le_of_mul_le_mul_right this (Nat.two_pow_pos _)
        · have : q * 2 ^ (L - 52) < 2 ^ 53 * 2 ^ (L - 52) := by
            rw [← hq, ← Nat.pow_add, show 53 + (L - 52) = L + 1 by omega]; exact hL2
          exact Nat.lt_of_mul_lt_mul_right this
        · rw [hq, Nat.mul_assoc, ← Nat.pow_add, show L - 52 + 52 = L by omega]
        · refine cut_exact _ _ _ _ ?_
          rw [show 52 - L = 0 by omega]; exact hq
    obtain ⟨q, q1, q2, q3, q4⟩ := key
    have hdiv : ((L + 1022) * 4503599627370496 + q) / 4503599627370496 = L + 1023 := by omega
    have hmod : ((L + 1022) * 4503599627370496 + q) % 4503599627370496 = q - 4503599627370496 := by omega
    refine fin ((L + 1022) * 4503599627370496 + q) (by omega) ?_ ?_
    · rw [rval, if_neg (by omega), hdiv, hmod, show 4503599627370496 + (q - 4503599627370496) = q by omega, show L + 1023 - 1 = L + 1022 by omega]
      rw [Nat.shiftLeft_eq, Nat.shiftLeft_eq, Nat.pow_add, ← Nat.mul_assoc, q3, Nat.mul_assoc, ← Nat.pow_add]
    · unfold Format.nearest
      rw [if_neg h0]
      have b : double.binade = 4503599627370496 := by decide
      have f : double.infRung = 9218868437227405312 := by decide
      have l : double.leastPlace = -1074 := by decide
      have fr : double.fractionBits = 52 := by decide
      simp only [b, f, l, fr, hl]
      rw [show max ((0 : Int) + (L : Int) - ((52 : Nat) : Int)) (-1074) = (L : Int) - 52 by omega]
      rw [show ((0 : Int) - ((L : Int) - 52)).toNat = 52 - L by omega, show ((L : Int) - 52 - 0).toNat = L - 52 by omega, q4, show ((L : Int) - 52 - -1074).toNat = L + 1022 by omega]
      rw [Nat.min_eq_left (by omega)]

theorem shl_lt {a b : Nat} (k : Nat) (h : a < b) : a <<< k < b <<< k := by
  rw [Nat.shiftLeft_eq, Nat.shiftLeft_eq]; exact Nat.mul_lt_mul_of_pos_right h (Nat.two_pow_pos _)
theorem shl_le {a b : Nat} (k : Nat) (h : a ≤ b) : a <<< k ≤ b <<< k := by
  rw [Nat.shiftLeft_eq, Nat.shiftLeft_eq]; exact Nat.mul_le_mul_right _ h
theorem shl_div_le (m a b : Nat) : (m / 2 ^ a) <<< (a + b) ≤ m <<< b := by
  rw [Nat.shiftLeft_add]; exact shl_le _ (by rw [Nat.shiftLeft_eq]; exact Nat.div_mul_le_self _ _)
theorem shl_div_lt (m a b : Nat) : m <<< b < (m / 2 ^ a + 1) <<< (a + b) := by
  rw [Nat.shiftLeft_add]; exact shl_lt _ (by rw [Nat.shiftLeft_eq]; exact (Nat.div_lt_iff_lt_mul (Nat.two_pow_pos _)).1 (Nat.lt_succ_self _))

/-- a float cut towards zero, as a whole number: none where it is not finite -/
def wholeF (x : Nat) : Option Int := (double.read x).toInt .zero
def truncW (x : Nat) : Nat := double.write ((double.read x).integral .zero)

theorem wholeF_fin {x : Nat} (h : rungW x < 9218868437227405312) : ∃ k e, k < 9007199254740992 ∧ e ≤ 971 ∧ wholeF x = some (signed (negW x) (k <<< e) 0) ∧ truncW x = double.nearest (negW x) (k <<< e) 0 ∧
    (k <<< e) <<< 1074 ≤ rval (rungW x) ∧ rval (rungW x) < (k <<< e + 1) <<< 1074 := by
  obtain ⟨m, i, e1, i1, i2, v1, hm⟩ := read_fin h
  unfold wholeF truncW Datum.toInt
  rw [e1]
  simp only [Datum.integral, Format.write]
  have hcut : ∀ n d, Toward.zero.cut (negW x) n d = n / 2 ^ min d (n.log2 + 2) := by
    intro n d
    unfold Toward.cut
    simp [Nat.shiftLeft_eq]
  by_cases hi : 0 ≤ i
  · have hv : (m <<< i.toNat) <<< 1074 = rval (rungW x) := by
      rw [← v1, ← Nat.shiftLeft_add]; congr 1; omega
    refine ⟨m, i.toNat, hm, by omega, ?_, ?_, Nat.le_of_eq hv, ?_⟩
    · rw [hcut, show (-i).toNat = 0 by omega]; simp
    · rw [hcut, show (-i).toNat = 0 by omega]; simp
    · rw [← hv]; exact shl_lt _ (Nat.lt_succ_self _)
  · have hdiv : m / 2 ^ min (-i).toNat (m.log2 + 2) = m / 2 ^ (-i).toNat := by
      rcases Nat.le_total (-i).toNat (m.log2 + 2) with h1 | h1
      · rw [Nat.min_eq_left h1]
      · rw [Nat.min_eq_right h1]
        have h2 := Nat.lt_log2_self (n := m)
        have h3 : 2 ^ (m.log2 + 1) ≤ 2 ^ (m.log2 + 2) := Nat.pow_le_pow_right (by decide) (by omega)
        have h4 : 2 ^ (m.log2 + 2) ≤ 2 ^ (-i).toNat := Nat.pow_le_pow_right (by decide) h1
        rw [Nat.div_eq_of_lt (by omega), Nat.div_eq_of_lt (by omega)]
    refine ⟨m / 2 ^ (-i).toNat, 0, Nat.lt_of_le_of_lt (Nat.div_le_self _ _) hm, by omega, ?_, ?_, ?_, ?_⟩
    · rw [show i.toNat = 0 by omega, Nat.shiftLeft_zero, hcut, hdiv]; simp
    · rw [show i.toNat = 0 by omega, Nat.shiftLeft_zero, hcut, hdiv]; simp
    · have := shl_div_le m (-i).toNat (i + 1074).toNat
      rw [v1, show (-i).toNat + (i + 1074).toNat = 1074 by omega] at this
      rw [Nat.shiftLeft_zero]; exact this
    · have := shl_div_lt m (-i).toNat (i + 1074).toNat
      rw [v1, show (-i).toNat + (i + 1074).toNat = 1074 by omega] at this
      rw [Nat.shiftLeft_zero]; exact this

/-- the least float of 64 bits that is no whole number of 64 bits -/
def W63 : Nat := 4890909195324358656

theorem rval_W63 : rval W63 = 9223372036854775808 <<< 1074 := by decide +kernel
theorem rval_W63s : (9223372036854775808 + 1) <<< 1074 ≤ rval (W63 + 1) := by decide +kernel

/-- 'int(f)' of a float that is cut: the number, if it is one of 64 bits -/
def intF (x : Nat) : Option Int :=
  match wholeF x with
  | some n => if -9223372036854775808 ≤ n ∧ n ≤ 9223372036854775807 then some n else none
  | none => none

theorem shl_le_iff (a b k : Nat) : a <<< k ≤ b <<< k ↔ a ≤ b := ⟨fun h => by
  rcases Nat.lt_or_ge b a with h1 | h1
  · have := shl_lt k h1; omega
  · exact h1, shl_le k⟩
theorem shl_lt_iff (a b k : Nat) : a <<< k < b <<< k ↔ a < b := ⟨fun h => by
  rcases Nat.lt_or_ge a b with h1 | h1
  · exact h1
  · have := shl_le k h1; omega, shl_lt k⟩

/-- a float is an int's just where it lies between -2^63 and 2^63 -/
theorem intF_range (x : Nat) : (intF x).isSome = decide (rungW x ≤ 9218868437227405312 ∧ -(W63 : Int) ≤ sr x ∧ sr x < W63) := by
  have hW : W63 = 4890909195324358656 := rfl
  rcases Nat.lt_trichotomy (rungW x) 9218868437227405312 with h | h | h
  · obtain ⟨k, e, _, _, h1, _, h3, h4⟩ := wholeF_fin h
    generalize k <<< e = c at *
    have a1 : c < 9223372036854775808 → rungW x < W63 := fun hc => by
      rcases Nat.lt_or_ge (rungW x) W63 with h5 | h5
      · exact h5
      · have h6 : rval W63 ≤ rval (rungW x) := by
          rcases Nat.lt_or_eq_of_le h5 with h7 | h7
          · exact Nat.le_of_lt (rval_lt h7)
          · rw [h7]; exact Nat.le_refl _
        rw [rval_W63] at h6
        have h7 := (shl_lt_iff _ _ _).1 (Nat.lt_of_le_of_lt h6 h4)
        omega
    have a2 : rungW x < W63 → c < 9223372036854775808 := fun hc => by
      have h6 := rval_lt hc
      rw [rval_W63] at h6
      exact (shl_lt_iff _ _ _).1 (Nat.lt_of_le_of_lt h3 h6)
    have a3 : c ≤ 9223372036854775808 → rungW x ≤ W63 := fun hc => by
      rcases Nat.lt_or_ge W63 (rungW x) with h5 | h5
      · have h6 : rval (W63 + 1) ≤ rval (rungW x) := by
          rcases Nat.lt_or_eq_of_le (show W63 + 1 ≤ rungW x from h5) with h7 | h7
          · exact Nat.le_of_lt (rval_lt h7)
          · rw [h7]; exact Nat.le_refl _
        have h7 := (shl_lt_iff _ _ _).1 (Nat.lt_of_le_of_lt (Nat.le_trans rval_W63s h6) h4)
        omega
      · exact h5
    have a4 : rungW x ≤ W63 → c ≤ 9223372036854775808 := fun hc => by
      have h6 : rval (rungW x) ≤ rval W63 := by
        rcases Nat.lt_or_eq_of_le hc with h7 | h7
        · exact Nat.le_of_lt (rval_lt h7)
        · rw [h7]; exact Nat.le_refl _
      rw [rval_W63] at h6
      exact (shl_le_iff _ _ _).1 (Nat.le_trans h3 h6)
    unfold intF sr
    rw [h1, signed_val, Nat.shiftLeft_zero]
    simp only
    cases negW x
    · simp only [Bool.false_eq_true, if_false]
      by_cases hc : c < 9223372036854775808
      · have := a1 hc
        rw [if_pos (by omega)]; symm; simp; omega
      · have : ¬ rungW x < W63 := fun hh => hc (a2 hh)
        rw [if_neg (by omega)]; symm; simp; omega
    · simp only [if_true]
      by_cases hc : c ≤ 9223372036854775808
      · have := a3 hc
        rw [if_pos (by omega)]; symm; simp; omega
      · have : ¬ rungW x ≤ W63 := fun hh => hc (a4 hh)
        rw [if_neg (by omega)]; symm; simp; omega
  · unfold intF wholeF Datum.toInt
    rw [read_inf h]
    unfold sr
    simp only [Datum.integral]
    symm; simp
    intro _
    rw [h, hW]
    cases negW x <;> simp
  · unfold intF wholeF Datum.toInt
    obtain ⟨t, ht⟩ := read_nan h
    rw [ht]
    simp only [Datum.integral]
    symm; simp
    intro hh; omega

theorem trunc_int (x : Nat) (h : rungW x ≤ 9218868437227405312) : intF (truncW x) = intF x ∧ rungW (truncW x) ≤ 9218868437227405312 := by
  rcases Nat.lt_or_eq_of_le h with h | h
  · obtain ⟨k, e, hk, he, h1, h2, h3, h4⟩ := wholeF_fin h
    obtain ⟨m, i, e1, i1, v1, hr⟩ := write_whole (negW x) k e hk he
    rw [← h2] at e1 hr
    refine ⟨?_, Nat.le_of_lt hr⟩
    obtain ⟨k', e', _, _, g1, _, g3, g4⟩ := wholeF_fin hr
    obtain ⟨m', i', e2, i2, _, v2, _⟩ := read_fin hr
    rw [e1] at e2
    injection e2 with f1 f2 f3
    subst f2; subst f3
    have hc : rval (rungW (truncW x)) = (k <<< e) <<< 1074 := by
      rw [← v2]
      rw [signed_val, signed_val] at v1
      generalize m <<< (i + 1074).toNat = p at *
      generalize (k <<< e) <<< 1074 = q at *
      split at v1 <;> omega
    rw [hc] at g3 g4
    have : k' <<< e' = k <<< e := by
      have l1 := (shl_le_iff _ _ _).1 g3
      have l2 := (shl_lt_iff _ _ _).1 g4
      omega
    unfold intF
    rw [g1, h1, this, ← f1]
  · have hr := read_inf h
    have ht : truncW x = double.word (negW x) 9218868437227405312 := by
      unfold truncW; rw [hr]; rfl
    have h1 := rungW_word (negW x) (show 9218868437227405312 < 9223372036854775808 by decide)
    refine ⟨?_, by rw [ht, h1]; decide⟩
    unfold intF wholeF Datum.toInt
    rw [hr, ht, read_inf h1]
    rfl

theorem sr_lo : sr 14114281232179134464 = -(W63 : Int) := by decide
theorem sr_hi : sr 4890909195324358656 = (W63 : Int) := by decide
theorem rg_lo : rungW 14114281232179134464 ≤ 9218868437227405312 := by decide
theorem rg_hi : rungW 4890909195324358656 ≤ 9218868437227405312 := by decide

theorem order_nan {x y : Nat} (h : 9218868437227405312 < rungW x) : double.order x y = none := by
  obtain ⟨t, ht⟩ := read_nan h
  show Datum.order (double.read x) (double.read y) = none
  rw [ht]; rfl
theorem order_nan' {x y : Nat} (h : 9218868437227405312 < rungW y) : double.order x y = none := by
  obtain ⟨t, ht⟩ := read_nan h
  show Datum.order (double.read x) (double.read y) = none
  rw [ht]; cases double.read x <;> rfl

theorem ge_lo (x : Nat) : (double.order x 14114281232179134464 == some .gt || double.order x 14114281232179134464 == some .eq) = decide (rungW x ≤ 9218868437227405312 ∧ -(W63 : Int) ≤ sr x) := by
  rcases Nat.lt_or_ge 9218868437227405312 (rungW x) with h | h
  · rw [order_nan h]; symm; simp; omega
  · rw [order_sr h rg_lo, sr_lo]
    rcases Int.lt_trichotomy (sr x) (-(W63 : Int)) with h1 | h1 | h1
    · rw [Int.compare_eq_lt.2 h1]; symm; simp; omega
    · rw [h1]; symm; simp; exact h
    · rw [Int.compare_eq_gt.2 h1]; symm; simp; omega
theorem lt_hi (x : Nat) : (double.order x 4890909195324358656 == some .lt) = decide (rungW x ≤ 9218868437227405312 ∧ sr x < W63) := by
  rcases Nat.lt_or_ge 9218868437227405312 (rungW x) with h | h
  · rw [order_nan h]; symm; simp; omega
  · rw [order_sr h rg_hi, sr_hi]
    rcases Int.lt_trichotomy (sr x) (W63 : Int) with h1 | h1 | h1
    · rw [Int.compare_eq_lt.2 h1]; symm; simp; omega
    · rw [h1]; symm; simp
    · rw [Int.compare_eq_gt.2 h1]; symm; simp; omega

/-- the test that val makes of the float that is cut -/
theorem cast_test (x : Nat) : ((double.order x 14114281232179134464 == some .gt || double.order x 14114281232179134464 == some .eq) && double.order x 4890909195324358656 == some .lt) = (intF x).isSome := by
  rw [ge_lo, lt_hi, intF_range]
  by_cases h1 : rungW x ≤ 9218868437227405312 <;> simp [h1]

end Go.Proofs.YthpkjkcfhipjhaaGreatDoor

namespace Go.Proofs.YthpkjkcfhipjhaaGreatDoor
set_option linter.unusedVariables false
set_option linter.unusedSimpArgs false
open Go.RowKit

theorem sgnW : Ieee.double.signWeight = 9223372036854775808 := by decide
theorem binW : Ieee.double.binade = 4503599627370496 := by decide
theorem infW : Ieee.double.infRung = 9218868437227405312 := by decide

theorem fNaN_iff (b : Int) : fNaN b = decide (9218868437227405312 < b.toNat % 9223372036854775808) := by
  unfold fNaN
  show (Ieee.Datum.order (Ieee.double.read b.toNat) (Ieee.double.read b.toNat) != some .eq) = _
  unfold Ieee.Format.read
  simp only [sgnW, binW, infW]
  generalize b.toNat % 9223372036854775808 = r
  generalize (b.toNat / 9223372036854775808 % 2 == 1) = s
  by_cases h1 : r < 4503599627370496
  · rw [if_pos h1]
    have : ¬ 9218868437227405312 < r := by omega
    simp [Ieee.Datum.order, this]
  · rw [if_neg h1]
    by_cases h2 : r < 9218868437227405312
    · rw [if_pos h2]
      have : ¬ 9218868437227405312 < r := by omega
      simp [Ieee.Datum.order, this]
    · rw [if_neg h2]
      by_cases h3 : r = 9218868437227405312
      · rw [if_pos h3]
        have : ¬ 9218868437227405312 < r := by omega
        simp [Ieee.Datum.order, this]
      · rw [if_neg h3]
        have : 9218868437227405312 < r := by omega
        simp [Ieee.Datum.order, this]

theorem plain_nan {b : Int} (h : 9218868437227405312 < b.toNat % 9223372036854775808) : plainI b = 9221120237041090560 := by
  rw [plainI, fNaN_iff, if_pos (by simpa using h)]

theorem plain_num {b : Int} (h : ¬ 9218868437227405312 < b.toNat % 9223372036854775808) : plainI b = if b = 9223372036854775808 then 0 else b := by
  rw [plainI, fNaN_iff, if_neg (by simpa using h)]
  simp

theorem plain_U64 {b : Int} (h : U64 b) : U64 (plainI b) := by
  obtain ⟨h1, h2⟩ := h
  by_cases hn : 9218868437227405312 < b.toNat % 9223372036854775808
  · rw [plain_nan hn]; exact ⟨by decide, by decide⟩
  · rw [plain_num hn]; split
    · exact ⟨by decide, by decide⟩
    · exact ⟨h1, h2⟩

theorem plain_idem {b : Int} : plainI (plainI b) = plainI b := by
  by_cases hn : 9218868437227405312 < b.toNat % 9223372036854775808
  · rw [plain_nan hn]; decide +kernel
  · rw [plain_num hn]; split
    · decide +kernel
    · rename_i h; rw [plain_num hn, if_neg h]

theorem run_farith (op : BinOp) (hop : op = .add ∨ op = .sub ∨ op = .mul ∨ op = .quo) (x y : Nat) (w : World) :
    ∃ r n, (binOp op 118 (.float .f64 x) (.float .f64 y)).run Tryz.prog w = .ok (.float .f64 r) (w.drewN n) ∧ plainI r = fRes (floatBits op .f64 x y) := by
  cases h : floatBits op .f64 x y with
  | some r => exact ⟨r, 0, by rw [run_float_arith _ _ _ _ _ _ _ h]; rfl, rfl⟩
  | none =>
    refine ⟨(w.tape w.drawn (.nanBits .f64 x y) % 2) * 2 ^ 63 + 0x7ff0000000000000 + 1 + (w.tape w.drawn (.nanBits .f64 x y) / 2) % (2 ^ 52 - 1), 1, ?_, ?_⟩
    · rcases hop with rfl | rfl | rfl | rfl <;> (simp only [floatBits] at h; simp [binOp, Op.floatArith, h, Question.forced, Question.cut]; rfl)
    · refine plain_nan ?_
      generalize w.tape w.drawn (.nanBits .f64 x y) = t
      rw [Int.toNat_natCast]
      rcases (show t % 2 = 0 ∨ t % 2 = 1 by omega) with h | h <;> rw [h] <;> omega

/-- a float is returned whose plain form is known -/
def OutF (p : Int) (w : World) (e : Ending) (w' : World) : Prop := ∃ (r : Nat) (n : Nat), e = .returned (.float .f64 r) ∧ plainI r = p ∧ w' = w.drewN n

/-- how two floats stand to each other, a NaN above all -/
def cmpF (x y : Nat) : Int :=
  if fNaN x && fNaN y then 0 else if fNaN x then 1 else if fNaN y then -1
  else if FloatKind.f64.format.order x y == some .lt then -1 else if FloatKind.f64.format.order x y == some .gt then 1 else 0

set_option maxRecDepth 100000 in
set_option maxHeartbeats 2000000 in
theorem isNaNf_c (x : Nat) (w : World) : Calls Tryz.prog 132 #[.float .f64 x] w fun e w' => e = .returned (.bool (fNaN x)) ∧ w = w' := by
  go_enter Tryz.func132, Tryz.ntmps132
  go_wp2_with fail
  go_ret
  exact ⟨rfl, rfl⟩

set_option maxRecDepth 100000 in
set_option maxHeartbeats 2000000 in
theorem cmpF64_c (x y : Nat) (w : World) (h1 : fNaN x = false) (h2 : fNaN y = false) : Calls Tryz.prog 115 #[.float .f64 x, .float .f64 y] w fun e w' => e = .returned (.int .i64 (cmpF x y)) ∧ w = w' := by
  go_enter Tryz.func115, Tryz.ntmps115
  go_wp2_with (go_at_call 132; refine (isNaNf_c _ _).mono ?_; rintro e w' ⟨rfl, rfl⟩)
  all_goals (go_ret; refine ⟨?_, rfl⟩; congr 2; simp [cmpF, *])

theorem fNaN_def (x : Nat) : (FloatKind.f64.format.order x x != some .eq) = fNaN x := rfl

set_option maxRecDepth 100000 in
set_option maxHeartbeats 2000000 in
theorem compareFloats_c (x y : Nat) (w : World) : Calls Tryz.prog 91 #[.float .f64 x, .float .f64 y] w fun e w' => e = .returned (.int .i64 (cmpF x y)) ∧ w = w' := by
  have d1 := fNaN_def x
  have d2 := fNaN_def y
  cases h1 : fNaN x <;> cases h2 : fNaN y
  all_goals
    rw [h1] at d1
    rw [h2] at d2
    go_enter Tryz.func91, Tryz.ntmps91
    go_wp2_with (go_at_call 115; refine (cmpF64_c _ _ _ (by assumption) (by assumption)).mono ?_; rintro e w' ⟨rfl, rfl⟩)
    all_goals (go_ret; refine ⟨?_, rfl⟩; first | rfl | (congr 2; simp [cmpF, *]; done))

theorem nan_rung (x : Nat) : fNaN x = decide (9218868437227405312 < rungW x) := by rw [fNaN_iff, Int.toNat_natCast]; rfl

theorem match_float {motive : Array Value → Type} (x : Nat) (h1 : (x : Nat) → motive #[.float .f64 x]) (h2 : (x : Array Value) → motive x) : Go.Extern.MathFloor.toIntegral.match_2 motive #[.float .f64 x] h1 h2 = h1 x := rfl

theorem intF_nan {r : Nat} (hr : 9218868437227405312 < rungW r) : intF r = none := by
  have := intF_range r
  rw [decide_eq_false (by omega)] at this
  simpa using this

theorem quiet_pos (t : Nat) : 0 < Ieee.double.quiet t % 4503599627370496 := by
  unfold Ieee.Format.quiet
  have e : 2 ^ (Ieee.double.fractionBits - 1) = 2 ^ 51 := by decide
  rw [e, show 4503599627370496 = 2 ^ 52 by decide, Nat.or_mod_two_pow]
  have : 2 ^ 51 % 2 ^ 52 = 2 ^ 51 := by decide
  rw [this]
  have := @Nat.right_le_or (t % 2 ^ 52) (2 ^ 51)
  omega

theorem cast_fi (x : Nat) : floatToIntVal .f64 x .i64 = intF x := rfl

end Go.Proofs.YthpkjkcfhipjhaaGreatDoor

namespace Go.Proofs.YthpkjkcfhipjhaaGreatDoor
set_option linter.unusedVariables false
set_option linter.unusedSimpArgs false
open Go.RowKit

/-- the table of powers of ten is as the program's text lays it -/
def Tab (w : World) : Prop := Lib.TabIs Tryz.prog w "internal/strconv.uint64pow10" .u64 Lib.pow10Tab
theorem Tab.below {w w' : World} (h : Tab w) (hb : Below w.heap.size w w') : Tab w' := Lib.tabBelow_of_tabIs h w' hb

def negS (k n f : Int) : Except Int V :=
  if k == 2 then (if n == -9223372036854775808 then .error 11 else .ok ⟨2, -n, 0, ⟨#[]⟩⟩)
  else if k == 3 then .ok ⟨3, 0, plainI (Op.negFloat .f64 f.toNat), ⟨#[]⟩⟩ else .error 1

theorem run_negF (b : Nat) (w : World) : (Op.unary .neg (.float .f64 b)).run Tryz.prog w = .ok (.float .f64 (Op.negFloat .f64 b)) w := rfl

def castS (k n f : Int) (t : ByteArray) (kind : Int) : Except Int V :=
  if k == kind then .ok ⟨k, n, f, t⟩
  else if k == 2 && kind == 3 then .ok ⟨3, 0, plainI (floatOfInt .f64 n), ⟨#[]⟩⟩
  else if k == 3 && kind == 2 then (match intF f.toNat with | some m => .ok ⟨2, m, 0, ⟨#[]⟩⟩ | none => .error 11)
  else if k == 2 && kind == 4 then .ok ⟨4, 0, 0, ⟨(Lib.itoa n).toArray⟩⟩
  else if k == 1 && kind == 4 then .ok ⟨4, 0, 0, ⟨(Lib.formatBool (n == 1)).toArray⟩⟩
  else .error 1

theorem size_mk (l : List UInt8) : (⟨l.toArray⟩ : ByteArray).size = l.length := by simp [ByteArray.size]

theorem itoa_c (n : Int) (w : World) (hn : I64 n) (ht : Tab w) : Calls Tryz.prog 50 #[.int .i64 n] w fun e w' => e = .returned (.string ⟨(Lib.itoa n).toArray⟩) ∧ Below w.heap.size w w' :=
  (Tryz.strconv_Itoa n hn.1 hn.2 w ht).mono fun _ _ ⟨h1, k, os, h2⟩ => ⟨h1, by rw [h2]; exact Lib.below_grow _ _ (Nat.le_refl _) _ _⟩

theorem cast_test' (x : Nat) : ((FloatKind.f64.format.order x 14114281232179134464 == some .gt || FloatKind.f64.format.order x 14114281232179134464 == some .eq) && FloatKind.f64.format.order x 4890909195324358656 == some .lt) = (intF x).isSome := cast_test x

end Go.Proofs.YthpkjkcfhipjhaaGreatDoor

namespace Go.Proofs.YthpkjkcfhipjhaaGreatDoor
set_option linter.unusedVariables false
set_option linter.unusedSimpArgs false
open Go.RowKit

def logicS (code k n f : Int) (t : ByteArray) (k' n' f' : Int) (t' : ByteArray) : Except Int V :=
  if !(decide (max k k' ≤ 1)) then .error 1
  else if eqV k n f t 1 (b2i (code == 23)) 0 ⟨#[]⟩ || eqV k' n' f' t' 1 (b2i (code == 23)) 0 ⟨#[]⟩ then .ok ⟨1, b2i (code == 23), 0, ⟨#[]⟩⟩
  else if k == 0 || k' == 0 then .ok ⟨0, 0, 0, ⟨#[]⟩⟩
  else .ok ⟨1, b2i (code == 22), 0, ⟨#[]⟩⟩

def oneS (code kind k n f : Int) (t : ByteArray) : Except Int V :=
  if !soundV k n f t then .error 1
  else if code == 5 then .ok ⟨1, b2i (k == 0), 0, ⟨#[]⟩⟩
  else if !(code == 3 || code == 4 || (code == 6 && (decide (1 ≤ kind) && decide (kind ≤ 4)))) then .error 1
  else if k == 0 then .ok ⟨k, n, f, t⟩
  else if code == 6 then castS k n f t kind
  else if code == 3 then negS k n f
  else if k == 1 then .ok ⟨1, b2i (n == 0), 0, ⟨#[]⟩⟩ else .error 1

end Go.Proofs.YthpkjkcfhipjhaaGreatDoor

namespace Go.Proofs.YthpkjkcfhipjhaaGreatDoor
set_option linter.unusedVariables false
set_option linter.unusedSimpArgs false
open Go.RowKit

def cmpV (k n f : Int) (t : ByteArray) (k' n' f' : Int) (t' : ByteArray) : Int :=
  if !soundV k n f t || !soundV k' n' f' t' then 0
  else if k != k' then Lib.compareInt k k'
  else if k == 3 then cmpF f.toNat f'.toNat
  else if k == 4 then Lib.compareBytes t.data.toList t'.data.toList
  else Lib.compareInt n n'

theorem cmpInt_q (x y : Int) (w : World) : Calls Tryz.prog 90 #[.int .i64 x, .int .i64 y] w fun e w' => e = .returned (.int .i64 (Lib.compareInt x y)) ∧ w = w' :=
  (Tryz.cmp_Compare_int x y w).mono fun _ _ ⟨h1, h2⟩ => ⟨h1, h2.symm⟩
theorem cmpStr_q (x y : ByteArray) (w : World) : Calls Tryz.prog 93 #[.string x, .string y] w fun e w' => e = .returned (.int .i64 (Lib.compareBytes x.data.toList y.data.toList)) ∧ w = w' :=
  (Tryz.strings_Compare x y w).mono fun _ _ ⟨h1, h2⟩ => ⟨h1, h2.symm⟩

set_option maxRecDepth 100000 in
set_option maxHeartbeats 2000000 in
theorem compare_f (n f : Int) (t : ByteArray) (n' f' : Int) (t' : ByteArray) (w : World) (hn : I64 n) (hn' : I64 n') (h1 : soundV 3 n f t = true) (h2 : soundV 3 n' f' t' = true) : Calls Tryz.prog 70 #[.agg #[.int .i64 3, .int .i64 n, .int .u64 f, .string t], .agg #[.int .i64 3, .int .i64 n', .int .u64 f', .string t']] w fun e w' => e = .returned (.int .i64 (cmpF f.toNat f'.toNat)) ∧ Below w.heap.size w w' := by
  go_enter Tryz.func70, Tryz.ntmps70
  go_wp2_with (first | (go_at_call_of 67 (Value.agg #[.int .i64 3, .int .i64 n, .int .u64 f, .string t]); refine (sound_c 3 n f t _ hn).mono ?_; rintro e w' ⟨rfl, hb⟩; obtain ⟨hc, hf⟩ := bcell hb; (try (have hz0 : w.heap.size < w'.heap.size := (by have := hb.size; (try simp at this); omega))); (try (have hz1 : w.heap.size + 1 < w'.heap.size := (by have := hb.size; (try simp at this); omega))); (try (have hz2 : w.heap.size + 2 < w'.heap.size := (by have := hb.size; (try simp at this); omega))); (try (have hz3 : w.heap.size + 3 < w'.heap.size := (by have := hb.size; (try simp at this); omega)))) | (go_at_call 67; refine (sound_c 3 n' f' t' _ hn').mono ?_; rintro e w' ⟨rfl, hb⟩; obtain ⟨hc, hf⟩ := bcell hb; (try (have hz0 : w.heap.size < w'.heap.size := (by have := hb.size; (try simp at this); omega))); (try (have hz1 : w.heap.size + 1 < w'.heap.size := (by have := hb.size; (try simp at this); omega))); (try (have hz2 : w.heap.size + 2 < w'.heap.size := (by have := hb.size; (try simp at this); omega))); (try (have hz3 : w.heap.size + 3 < w'.heap.size := (by have := hb.size; (try simp at this); omega)))))
  go_region_with (first | (go_at_call 92; refine (float_c _ _ _ _ _).mono ?_; rintro e w' ⟨rfl, hb⟩; (try (replace hb := below_undrew hb)); (try (replace hb := below_undrewN hb)); obtain ⟨hc, hf⟩ := bcell hb; (try (have hz0 : w.heap.size < w'.heap.size := (by have := hb.size; (try simp at this); omega))); (try (have hz1 : w.heap.size + 1 < w'.heap.size := (by have := hb.size; (try simp at this); omega))); (try (have hz2 : w.heap.size + 2 < w'.heap.size := (by have := hb.size; (try simp at this); omega))); (try (have hz3 : w.heap.size + 3 < w'.heap.size := (by have := hb.size; (try simp at this); omega)))) | (go_at_call 91; refine (compareFloats_c _ _ _).mono ?_; rintro e w' ⟨rfl, rfl⟩))
  all_goals (go_wp2_with fail; go_ret; exact ⟨rfl, (by repeat (first | (with_reducible exact Below.refl _ _) | (with_reducible refine below_al ?_ _) | (with_reducible refine below_drewN ?_ _) | (with_reducible refine Below.drew ?_) | (with_reducible refine below_via (by assumption) ?_) | (with_reducible refine below_sc ?_ ?_ _; · (first | (simp; done) | (simp; omega) | omega))))⟩)

set_option maxRecDepth 100000 in
set_option maxHeartbeats 2000000 in
theorem compare_c (k n f : Int) (t : ByteArray) (k' n' f' : Int) (t' : ByteArray) (w : World) (hn : I64 n) (hn' : I64 n') : Calls Tryz.prog 70 #[.agg #[.int .i64 k, .int .i64 n, .int .u64 f, .string t], .agg #[.int .i64 k', .int .i64 n', .int .u64 f', .string t']] w fun e w' => e = .returned (.int .i64 (cmpV k n f t k' n' f' t')) ∧ Below w.heap.size w w' := by
  have any : ∀ r : Int, cmpV k n f t k' n' f' t' = r → (∀ (e : Ending) (w' : World), (e = .returned (.int .i64 r) ∧ Below w.heap.size w w') → (e = .returned (.int .i64 (cmpV k n f t k' n' f' t')) ∧ Below w.heap.size w w')) := fun r h e w' ⟨a, b⟩ => ⟨by rw [h]; exact a, b⟩
  cases h1 : soundV k n f t with
  | false =>
    refine Calls.mono ?_ (any 0 (by simp [cmpV, h1]))
    clear any
    go_enter Tryz.func70, Tryz.ntmps70
    go_wp2_with (first | (go_at_call_of 67 (Value.agg #[.int .i64 k, .int .i64 n, .int .u64 f, .string t]); refine (sound_c k n f t _ hn).mono ?_; rintro e w' ⟨rfl, hb⟩; obtain ⟨hc, hf⟩ := bcell hb; (try (have hz0 : w.heap.size < w'.heap.size := (by have := hb.size; (try simp at this); omega))); (try (have hz1 : w.heap.size + 1 < w'.heap.size := (by have := hb.size; (try simp at this); omega))); (try (have hz2 : w.heap.size + 2 < w'.heap.size := (by have := hb.size; (try simp at this); omega))); (try (have hz3 : w.heap.size + 3 < w'.heap.size := (by have := hb.size; (try simp at this); omega)))) | (go_at_call 67; refine (sound_c k' n' f' t' _ hn').mono ?_; rintro e w' ⟨rfl, hb⟩; obtain ⟨hc, hf⟩ := bcell hb; (try (have hz0 : w.heap.size < w'.heap.size := (by have := hb.size; (try simp at this); omega))); (try (have hz1 : w.heap.size + 1 < w'.heap.size := (by have := hb.size; (try simp at this); omega))); (try (have hz2 : w.heap.size + 2 < w'.heap.size := (by have := hb.size; (try simp at this); omega))); (try (have hz3 : w.heap.size + 3 < w'.heap.size := (by have := hb.size; (try simp at this); omega)))) | (go_at_call 90; refine (cmpInt_q _ _ _).mono ?_; rintro e w' ⟨rfl, rfl⟩) | (go_at_call 93; refine (cmpStr_q _ _ _).mono ?_; rintro e w' ⟨rfl, rfl⟩))
    all_goals (go_ret; exact ⟨rfl, (by repeat (first | (with_reducible exact Below.refl _ _) | (with_reducible refine below_al ?_ _) | (with_reducible refine below_drewN ?_ _) | (with_reducible refine Below.drew ?_) | (with_reducible refine below_via (by assumption) ?_) | (with_reducible refine below_sc ?_ ?_ _; · (first | (simp; done) | (simp; omega) | omega))))⟩)
  | true =>
    cases h2 : soundV k' n' f' t' with
    | false =>
      refine Calls.mono ?_ (any 0 (by simp [cmpV, h2]))
      clear any
      go_enter Tryz.func70, Tryz.ntmps70
      go_wp2_with (first | (go_at_call_of 67 (Value.agg #[.int .i64 k, .int .i64 n, .int .u64 f, .string t]); refine (sound_c k n f t _ hn).mono ?_; rintro e w' ⟨rfl, hb⟩; obtain ⟨hc, hf⟩ := bcell hb; (try (have hz0 : w.heap.size < w'.heap.size := (by have := hb.size; (try simp at this); omega))); (try (have hz1 : w.heap.size + 1 < w'.heap.size := (by have := hb.size; (try simp at this); omega))); (try (have hz2 : w.heap.size + 2 < w'.heap.size := (by have := hb.size; (try simp at this); omega))); (try (have hz3 : w.heap.size + 3 < w'.heap.size := (by have := hb.size; (try simp at this); omega)))) | (go_at_call 67; refine (sound_c k' n' f' t' _ hn').mono ?_; rintro e w' ⟨rfl, hb⟩; obtain ⟨hc, hf⟩ := bcell hb; (try (have hz0 : w.heap.size < w'.heap.size := (by have := hb.size; (try simp at this); omega))); (try (have hz1 : w.heap.size + 1 < w'.heap.size := (by have := hb.size; (try simp at this); omega))); (try (have hz2 : w.heap.size + 2 < w'.heap.size := (by have := hb.size; (try simp at this); omega))); (try (have hz3 : w.heap.size + 3 < w'.heap.size := (by have := hb.size; (try simp at this); omega)))) | (go_at_call 90; refine (cmpInt_q _ _ _).mono ?_; rintro e w' ⟨rfl, rfl⟩) | (go_at_call 93; refine (cmpStr_q _ _ _).mono ?_; rintro e w' ⟨rfl, rfl⟩))
      all_goals (go_ret; exact ⟨rfl, (by repeat (first | (with_reducible exact Below.refl _ _) | (with_reducible refine below_al ?_ _) | (with_reducible refine below_drewN ?_ _) | (with_reducible refine Below.drew ?_) | (with_reducible refine below_via (by assumption) ?_) | (with_reducible refine below_sc ?_ ?_ _; · (first | (simp; done) | (simp; omega) | omega))))⟩)
    | true =>
      by_cases h3 : k = k'
      · subst h3
        by_cases h4 : k = 3
        · subst h4
          exact (compare_f n f t n' f' t' w hn hn' h1 h2).mono (any _ (by simp [cmpV, h1, h2]))
        · by_cases h5 : k = 4
          · subst h5
            refine Calls.mono ?_ (any (Lib.compareBytes t.data.toList t'.data.toList) (by simp [cmpV, h1, h2]))
            clear any
            go_enter Tryz.func70, Tryz.ntmps70
            go_wp2_with (first | (go_at_call_of 67 (Value.agg #[.int .i64 4, .int .i64 n, .int .u64 f, .string t]); refine (sound_c 4 n f t _ hn).mono ?_; rintro e w' ⟨rfl, hb⟩; obtain ⟨hc, hf⟩ := bcell hb; (try (have hz0 : w.heap.size < w'.heap.size := (by have := hb.size; (try simp at this); omega))); (try (have hz1 : w.heap.size + 1 < w'.heap.size := (by have := hb.size; (try simp at this); omega))); (try (have hz2 : w.heap.size + 2 < w'.heap.size := (by have := hb.size; (try simp at this); omega))); (try (have hz3 : w.heap.size + 3 < w'.heap.size := (by have := hb.size; (try simp at this); omega)))) | (go_at_call 67; refine (sound_c 4 n' f' t' _ hn').mono ?_; rintro e w' ⟨rfl, hb⟩; obtain ⟨hc, hf⟩ := bcell hb; (try (have hz0 : w.heap.size < w'.heap.size := (by have := hb.size; (try simp at this); omega))); (try (have hz1 : w.heap.size + 1 < w'.heap.size := (by have := hb.size; (try simp at this); omega))); (try (have hz2 : w.heap.size + 2 < w'.heap.size := (by have := hb.size; (try simp at this); omega))); (try (have hz3 : w.heap.size + 3 < w'.heap.size := (by have := hb.size; (try simp at this); omega)))) | (go_at_call 90; refine (cmpInt_q _ _ _).mono ?_; rintro e w' ⟨rfl, rfl⟩) | (go_at_call 93; refine (cmpStr_q _ _ _).mono ?_; rintro e w' ⟨rfl, rfl⟩))
            all_goals (go_ret; exact ⟨rfl, (by repeat (first | (with_reducible exact Below.refl _ _) | (with_reducible refine below_al ?_ _) | (with_reducible refine below_drewN ?_ _) | (with_reducible refine Below.drew ?_) | (with_reducible refine below_via (by assumption) ?_) | (with_reducible refine below_sc ?_ ?_ _; · (first | (simp; done) | (simp; omega) | omega))))⟩)
          · refine Calls.mono ?_ (any (Lib.compareInt n n') (by simp [cmpV, h1, h2, h4, h5]))
            clear any
            go_enter Tryz.func70, Tryz.ntmps70
            go_wp2_with (first | (go_at_call_of 67 (Value.agg #[.int .i64 k, .int .i64 n, .int .u64 f, .string t]); refine (sound_c k n f t _ hn).mono ?_; rintro e w' ⟨rfl, hb⟩; obtain ⟨hc, hf⟩ := bcell hb; (try (have hz0 : w.heap.size < w'.heap.size := (by have := hb.size; (try simp at this); omega))); (try (have hz1 : w.heap.size + 1 < w'.heap.size := (by have := hb.size; (try simp at this); omega))); (try (have hz2 : w.heap.size + 2 < w'.heap.size := (by have := hb.size; (try simp at this); omega))); (try (have hz3 : w.heap.size + 3 < w'.heap.size := (by have := hb.size; (try simp at this); omega)))) | (go_at_call 67; refine (sound_c k n' f' t' _ hn').mono ?_; rintro e w' ⟨rfl, hb⟩; obtain ⟨hc, hf⟩ := bcell hb; (try (have hz0 : w.heap.size < w'.heap.size := (by have := hb.size; (try simp at this); omega))); (try (have hz1 : w.heap.size + 1 < w'.heap.size := (by have := hb.size; (try simp at this); omega))); (try (have hz2 : w.heap.size + 2 < w'.heap.size := (by have := hb.size; (try simp at this); omega))); (try (have hz3 : w.heap.size + 3 < w'.heap.size := (by have := hb.size; (try simp at this); omega)))) | (go_at_call 90; refine (cmpInt_q _ _ _).mono ?_; rintro e w' ⟨rfl, rfl⟩) | (go_at_call 93; refine (cmpStr_q _ _ _).mono ?_; rintro e w' ⟨rfl, rfl⟩))
            all_goals (go_ret; exact ⟨rfl, (by repeat (first | (with_reducible exact Below.refl _ _) | (with_reducible refine below_al ?_ _) | (with_reducible refine below_drewN ?_ _) | (with_reducible refine Below.drew ?_) | (with_reducible refine below_via (by assumption) ?_) | (with_reducible refine below_sc ?_ ?_ _; · (first | (simp; done) | (simp; omega) | omega))))⟩)
      · refine Calls.mono ?_ (any (Lib.compareInt k k') (by simp [cmpV, h1, h2, h3]))
        clear any
        go_enter Tryz.func70, Tryz.ntmps70
        go_wp2_with (first | (go_at_call_of 67 (Value.agg #[.int .i64 k, .int .i64 n, .int .u64 f, .string t]); refine (sound_c k n f t _ hn).mono ?_; rintro e w' ⟨rfl, hb⟩; obtain ⟨hc, hf⟩ := bcell hb; (try (have hz0 : w.heap.size < w'.heap.size := (by have := hb.size; (try simp at this); omega))); (try (have hz1 : w.heap.size + 1 < w'.heap.size := (by have := hb.size; (try simp at this); omega))); (try (have hz2 : w.heap.size + 2 < w'.heap.size := (by have := hb.size; (try simp at this); omega))); (try (have hz3 : w.heap.size + 3 < w'.heap.size := (by have := hb.size; (try simp at this); omega)))) | (go_at_call 67; refine (sound_c k' n' f' t' _ hn').mono ?_; rintro e w' ⟨rfl, hb⟩; obtain ⟨hc, hf⟩ := bcell hb; (try (have hz0 : w.heap.size < w'.heap.size := (by have := hb.size; (try simp at this); omega))); (try (have hz1 : w.heap.size + 1 < w'.heap.size := (by have := hb.size; (try simp at this); omega))); (try (have hz2 : w.heap.size + 2 < w'.heap.size := (by have := hb.size; (try simp at this); omega))); (try (have hz3 : w.heap.size + 3 < w'.heap.size := (by have := hb.size; (try simp at this); omega)))) | (go_at_call 90; refine (cmpInt_q _ _ _).mono ?_; rintro e w' ⟨rfl, rfl⟩) | (go_at_call 93; refine (cmpStr_q _ _ _).mono ?_; rintro e w' ⟨rfl, rfl⟩))
        all_goals (go_ret; exact ⟨rfl, (by repeat (first | (with_reducible exact Below.refl _ _) | (with_reducible refine below_al ?_ _) | (with_reducible refine below_drewN ?_ _) | (with_reducible refine Below.drew ?_) | (with_reducible refine below_via (by assumption) ?_) | (with_reducible refine below_sc ?_ ?_ _; · (first | (simp; done) | (simp; omega) | omega))))⟩)

end Go.Proofs.YthpkjkcfhipjhaaGreatDoor

namespace Go.Proofs.YthpkjkcfhipjhaaGreatDoor
set_option linter.unusedVariables false
set_option linter.unusedSimpArgs false
open Go.RowKit

def addI : Except Int Int → Except Int V
  | .ok x => .ok ⟨2, x, 0, ⟨#[]⟩⟩
  | .error c => .error c

def textS (t : ByteArray) : Except Int V := if t.size ≤ 4096 then .ok ⟨4, 0, 0, t⟩ else .error 12

def comparedB (code c : Int) : Bool :=
  if code == 16 then c == 0 else if code == 17 then c != 0 else if code == 18 then decide (c < 0) else if code == 19 then decide (c ≤ 0) else if code == 20 then decide (0 < c) else decide (0 ≤ c)
def fitsB (code k : Int) : Bool :=
  if k == 0 || (decide (16 ≤ code) && decide (code ≤ 21)) then true else if code == 15 then k == 4 else if code == 14 then k == 2 else k == 2 || k == 3

def twoS (code k n f : Int) (t : ByteArray) (k' n' f' : Int) (t' : ByteArray) : Except Int V :=
  if !(soundV k n f t && soundV k' n' f' t' && decide (10 ≤ code) && decide (code ≤ 24)) then .error 1
  else if code == 22 || code == 23 then logicS code k n f t k' n' f' t'
  else if !(k == 0 || k' == 0 || k == k') then .error 1
  else if code == 24 then (if k == 0 then .ok ⟨k', n', f', t'⟩ else .ok ⟨k, n, f, t⟩)
  else if !(fitsB code k && fitsB code k') then .error 1
  else if k == 0 || k' == 0 then .ok ⟨0, 0, 0, ⟨#[]⟩⟩
  else if decide (16 ≤ code) then .ok ⟨1, b2i (comparedB code (cmpV k n f t k' n' f' t')), 0, ⟨#[]⟩⟩
  else if code == 15 then textS (t ++ t')
  else if k == 3 then .ok ⟨3, 0, floatS code f.toNat f'.toNat, ⟨#[]⟩⟩
  else addI (intsS code n n')

end Go.Proofs.YthpkjkcfhipjhaaGreatDoor

namespace Go.Proofs.YthpkjkcfhipjhaaGreatDoor
set_option linter.unusedVariables false
set_option linter.unusedSimpArgs false
open Go.RowKit

end Go.Proofs.YthpkjkcfhipjhaaGreatDoor

namespace Go.Proofs.YthpkjkcfhipjhaaGreatDoor
set_option linter.unusedVariables false
set_option linter.unusedSimpArgs false
open Go.RowKit

end Go.Proofs.YthpkjkcfhipjhaaGreatDoor

namespace Go.Proofs.YthpkjkcfhipjhaaGreatDoor
set_option linter.unusedVariables false
set_option linter.unusedSimpArgs false
open Go.RowKit

end Go.Proofs.YthpkjkcfhipjhaaGreatDoor

namespace Go.Proofs.YthpkjkcfhipjhaaGreatDoor
set_option linter.unusedVariables false
set_option linter.unusedSimpArgs false
open Go.RowKit

theorem sound_text {k n f : Int} {t : ByteArray} (h : soundV k n f t = true) : k = 4 → t.size ≤ 4096 := by
  rintro rfl
  simp [soundV] at h
  exact h.2

end Go.Proofs.YthpkjkcfhipjhaaGreatDoor

namespace Go.Proofs.YthpkjkcfhipjhaaGreatDoor
set_option linter.unusedVariables false
set_option linter.unusedSimpArgs false
open Go.RowKit

/-- what a door answers -/
def resV : Except Int V → V × Int
  | .ok x => (x, 0)
  | .error c => (⟨0, 0, 0, ⟨#[]⟩⟩, c)

theorem frame_mode (c : Frame) (m : FrameMode) : ({ fn := c.fn, tmps := c.tmps, todo := c.todo, defers := c.defers, mode := m, kind := c.kind, roundOf := c.roundOf } : Frame) = { c with mode := m } := rfl
theorem frame_same (c : Frame) (m : FrameMode) (h : c.mode = m) : c = { c with mode := m } := by cases c; cases h; rfl
/-- a door's answer -/
def OutD (r : Except Int V) (w : World) (e : Ending) (w' : World) : Prop :=
  e = .returned (.tuple #[.agg #[.int .i64 (resV r).1.k, .int .i64 (resV r).1.n, .int .u64 (resV r).1.f, .string (resV r).1.t], .int .i64 (resV r).2]) ∧ Below w.heap.size w w'

end Go.Proofs.YthpkjkcfhipjhaaGreatDoor
