/- Plain facts on floats: their order is that of their rungs; a number cut towards zero is itself a float. -/
import Derived.WalkLawsBesides
namespace Go.Proofs.YtjnkkjeneomckaaDoor
set_option linter.unusedVariables false
set_option linter.unusedSimpArgs false
open Ieee

theorem signed_shift (s : Bool) (m a b : Nat) : signed s m (a + b) = signed s m a * (2 ^ b : Nat) := by
  unfold signed
  cases s <;> simp [Nat.shiftLeft_eq, Nat.pow_add, Int.mul_assoc, Int.neg_mul]

theorem cmp_scale (x y : Int) (k : Nat) (hk : 0 < k) : compare (x * (k : Int)) (y * (k : Int)) = compare x y := by
  have h : ((0 : Int) < k) := by omega
  rcases Int.lt_trichotomy x y with h1 | h1 | h1
  · have : x * (k : Int) < y * k := Int.mul_lt_mul_of_pos_right h1 h
    rw [Int.compare_eq_lt.2 h1, Int.compare_eq_lt.2 this]
  · rw [h1]; simp
  · have : y * (k : Int) < x * k := Int.mul_lt_mul_of_pos_right h1 h
    rw [Int.compare_eq_gt.2 h1, Int.compare_eq_gt.2 this]

theorem order_numbers (s t : Bool) (m n : Nat) (i j : Int) (hi : -1074 ≤ i) (hj : -1074 ≤ j) :
    Datum.order (.number s m i) (.number t n j) = some (compare (signed s m (i + 1074).toNat) (signed t n (j + 1074).toNat)) := by
  simp only [Datum.order]
  have e1 : (i + 1074).toNat = (i - min i j).toNat + (min i j + 1074).toNat := by omega
  have e2 : (j + 1074).toNat = (j - min i j).toNat + (min i j + 1074).toNat := by omega
  rw [e1, e2, signed_shift, signed_shift, cmp_scale _ _ _ (Nat.two_pow_pos _)]

/-- what a rung stands for, in units of the least place -/
def rval (r : Nat) : Nat := if r < 4503599627370496 then r else (4503599627370496 + r % 4503599627370496) <<< (r / 4503599627370496 - 1)

theorem rval_succ (r : Nat) : rval r < rval (r + 1) := by
  unfold rval
  by_cases h1 : r + 1 < 4503599627370496
  · rw [if_pos (by omega), if_pos h1]; omega
  · rw [if_neg h1]
    by_cases h2 : r < 4503599627370496
    · rw [if_pos h2]
      have : r = 4503599627370495 := by omega
      subst this; decide
    · rw [if_neg h2]
      by_cases h3 : (r + 1) % 4503599627370496 = 0
      · have e1 : r % 4503599627370496 = 4503599627370495 := by omega
        have e2 : (r + 1) / 4503599627370496 - 1 = (r / 4503599627370496 - 1) + 1 := by omega
        rw [h3, e1, e2, Nat.shiftLeft_eq, Nat.shiftLeft_eq, Nat.pow_succ]
        have := Nat.two_pow_pos (r / 4503599627370496 - 1)
        generalize 2 ^ (r / 4503599627370496 - 1) = p at *
        omega
      · have e1 : (r + 1) % 4503599627370496 = r % 4503599627370496 + 1 := by omega
        have e2 : (r + 1) / 4503599627370496 = r / 4503599627370496 := by omega
        rw [e1, e2, Nat.shiftLeft_eq, Nat.shiftLeft_eq]
        exact Nat.mul_lt_mul_of_pos_right (by omega) (Nat.two_pow_pos _)

theorem rval_lt {a b : Nat} (h : a < b) : rval a < rval b := by
  induction b with
  | zero => omega
  | succ b ih =>
    by_cases e : a = b
    · subst e; exact rval_succ a
    · exact Nat.lt_trans (ih (by omega)) (rval_succ b)

theorem rval_cmp (a b : Nat) : compare (rval a) (rval b) = compare a b := by
  rcases Nat.lt_trichotomy a b with h | h | h
  · rw [Nat.compare_eq_lt.2 h, Nat.compare_eq_lt.2 (rval_lt h)]
  · rw [h, Nat.compare_eq_eq.2 rfl, Nat.compare_eq_eq.2 rfl]
  · rw [Nat.compare_eq_gt.2 h, Nat.compare_eq_gt.2 (rval_lt h)]

def negW (x : Nat) : Bool := x / 9223372036854775808 % 2 == 1
def rungW (x : Nat) : Nat := x % 9223372036854775808

/-- the place of a word that is no NaN in the order of floats -/
def sr (x : Nat) : Int := if negW x then -(rungW x : Int) else rungW x

theorem read_fin {x : Nat} (h : rungW x < 9218868437227405312) : ∃ m i, double.read x = .number (negW x) m i ∧ -1074 ≤ i ∧ i ≤ 971 ∧ m <<< (i + 1074).toNat = rval (rungW x) ∧ m < 9007199254740992 := by
  unfold Format.read
  have s : double.signWeight = 9223372036854775808 := by decide
  have b : double.binade = 4503599627370496 := by decide
  have f : double.infRung = 9218868437227405312 := by decide
  have l : double.leastPlace = -1074 := by decide
  simp only [s, b, f, l]
  change rungW x < _ at h
  unfold rungW at h ⊢
  unfold negW
  generalize hr : x % 9223372036854775808 = r at *
  by_cases h1 : r < 4503599627370496
  · rw [if_pos h1]
    exact ⟨r, -1074, rfl, by omega, by omega, by simp [rval, h1], by omega⟩
  · rw [if_neg h1, if_pos h]
    refine ⟨_, _, rfl, by omega, by omega, ?_, by omega⟩
    rw [rval, if_neg h1]
    congr 1
    omega

theorem read_inf {x : Nat} (h : rungW x = 9218868437227405312) : double.read x = .infinity (negW x) := by
  unfold Format.read
  have s : double.signWeight = 9223372036854775808 := by decide
  have b : double.binade = 4503599627370496 := by decide
  have f : double.infRung = 9218868437227405312 := by decide
  simp only [s, b, f]
  unfold rungW at h
  rw [h]; rfl

theorem read_nan {x : Nat} (h : 9218868437227405312 < rungW x) : ∃ t, double.read x = .nan (negW x) t := by
  unfold Format.read
  have s : double.signWeight = 9223372036854775808 := by decide
  have b : double.binade = 4503599627370496 := by decide
  have f : double.infRung = 9218868437227405312 := by decide
  simp only [s, b, f]
  unfold rungW at h
  rw [if_neg (by omega), if_neg (by omega), if_neg (by omega)]
  exact ⟨_, rfl⟩

theorem signed_val (s : Bool) (m k : Nat) : signed s m k = if s then -((m <<< k : Nat) : Int) else ((m <<< k : Nat) : Int) := rfl

theorem cmp_neg (a b : Int) : compare (-a) (-b) = compare b a := by
  rcases Int.lt_trichotomy a b with h | h | h
  · rw [Int.compare_eq_gt.2 h, Int.compare_eq_gt.2 (by omega)]
  · rw [h]; simp
  · rw [Int.compare_eq_lt.2 h, Int.compare_eq_lt.2 (by omega)]

theorem order_sr {x y : Nat} (hx : rungW x ≤ 9218868437227405312) (hy : rungW y ≤ 9218868437227405312) : double.order x y = some (compare (sr x) (sr y)) := by
  have hz : rval 0 = 0 := by decide
  have key : ∀ (s t : Bool) (a b : Nat), compare (if s then -((rval a : Nat) : Int) else (rval a : Nat)) (if t then -((rval b : Nat) : Int) else (rval b : Nat)) = compare (if s then -(a : Int) else (a : Int)) (if t then -(b : Int) else (b : Int)) := by
    intro s t a b
    have h1 : a < b → rval a < rval b := rval_lt
    have h2 : b < a → rval b < rval a := rval_lt
    have h3 : 0 < a → 0 < rval a := fun h => by have := rval_lt h; omega
    have h4 : 0 < b → 0 < rval b := fun h => by have := rval_lt h; omega
    have h5 : a = b → rval a = rval b := fun h => by rw [h]
    have h6 : a = 0 → rval a = 0 := fun h => by rw [h, hz]
    have h7 : b = 0 → rval b = 0 := fun h => by rw [h, hz]
    have tri : ∀ (p q p' q' : Int), (p < q → p' < q') → (p = q → p' = q') → (q < p → q' < p') → compare p' q' = compare p q := by
      intro p q p' q' k1 k2 k3
      rcases Int.lt_trichotomy p q with h | h | h
      · rw [Int.compare_eq_lt.2 h, Int.compare_eq_lt.2 (k1 h)]
      · rw [h, k2 h]; simp
      · rw [Int.compare_eq_gt.2 h, Int.compare_eq_gt.2 (k3 h)]
    refine tri _ _ _ _ ?_ ?_ ?_ <;> cases s <;> cases t <;> simp only [if_true, Bool.false_eq_true, if_false] <;> intro h <;> omega
  show Datum.order (double.read x) (double.read y) = _
  unfold sr
  rcases Nat.lt_or_eq_of_le hx with hx | hx <;> rcases Nat.lt_or_eq_of_le hy with hy | hy
  · obtain ⟨m, i, e1, i1, _, v1, _⟩ := read_fin hx
    obtain ⟨n, j, e2, j1, _, v2, _⟩ := read_fin hy
    rw [e1, e2, order_numbers _ _ _ _ _ _ i1 j1, signed_val, signed_val, v1, v2, key]
  · obtain ⟨m, i, e1, _⟩ := read_fin hx
    rw [e1, read_inf hy]
    simp only [Datum.order]
    rw [hy]
    cases negW x <;> cases negW y <;> simp only [if_true, Bool.false_eq_true, if_false] <;> first | rw [Int.compare_eq_lt.2 (by omega)] | rw [Int.compare_eq_gt.2 (by omega)]
  · obtain ⟨m, i, e1, _⟩ := read_fin hy
    rw [e1, read_inf hx]
    simp only [Datum.order]
    rw [hx]
    cases negW x <;> cases negW y <;> simp only [if_true, Bool.false_eq_true, if_false] <;> first | rw [Int.compare_eq_lt.2 (by omega)] | rw [Int.compare_eq_gt.2 (by omega)]
  · rw [read_inf hx, read_inf hy]
    simp only [Datum.order]
    rw [hx, hy]
    cases negW x <;> cases negW y <;> decide

theorem negW_word (s : Bool) {r : Nat} (h : r < 9223372036854775808) : negW (double.word s r) = s := by
  have e : double.signWeight = 9223372036854775808 := by decide
  unfold negW Format.word
  rw [e]
  cases s
  · simp only [Bool.false_eq_true, if_false]
    have : r / 9223372036854775808 = 0 := by omega
    rw [this]; rfl
  · simp only [if_true]
    have : (9223372036854775808 + r) / 9223372036854775808 = 1 := by omega
    rw [this]; rfl
theorem rungW_word (s : Bool) {r : Nat} (h : r < 9223372036854775808) : rungW (double.word s r) = r := by
  have e : double.signWeight = 9223372036854775808 := by decide
  unfold rungW Format.word
  rw [e]
  cases s
  · simp only [Bool.false_eq_true, if_false]; omega
  · simp only [if_true]; omega

theorem cut_exact (s : Bool) (n d q : Nat) (h : n = q * 2 ^ d) : Toward.even.cut s n d = q := by
  have hd : n = 0 ∨ d ≤ n.log2 + 2 := by
    rcases Nat.eq_zero_or_pos n with h0 | h0
    · exact .inl h0
    · right
      have h1 := Nat.lt_log2_self (n := n)
      have hq : 1 ≤ q := by
        rcases Nat.eq_zero_or_pos q with hq | hq
        · rw [hq] at h; omega
        · exact hq
      have h2 : 2 ^ d ≤ n := by rw [h]; exact Nat.le_mul_of_pos_left _ hq
      have h3 : 2 ^ d < 2 ^ (n.log2 + 1) := Nat.lt_of_le_of_lt h2 h1
      have := (Nat.pow_lt_pow_iff_right (by decide : 1 < 2)).1 h3
      omega
  unfold Toward.cut
  simp only [Nat.shiftLeft_eq, Nat.one_mul]
  rcases hd with hd | hd
  · have hq : q = 0 := by
      have hp := Nat.two_pow_pos d
      rcases Nat.eq_zero_or_pos q with hq | hq
      · exact hq
      · have : 0 < q * 2 ^ d := Nat.mul_pos hq hp
        omega
    subst hd; subst hq
    simp
  · rw [Nat.min_eq_left hd]
    have hp := Nat.two_pow_pos d
    have hz : n % 2 ^ d = 0 := by rw [h]; exact Nat.mul_mod_left _ _
    have hv : n / 2 ^ d = q := by rw [h]; exact Nat.mul_div_left _ hp
    rw [hz, hv]
    have : ¬ (2 ^ d = 0) := by omega
    simp [this]

set_option exponentiation.threshold 1100 in
/-- a whole number that is a float is written as itself -/
theorem write_whole (s : Bool) (k e : Nat) (hk : k < 9007199254740992) (he : e ≤ 971) :
    ∃ m i, double.read (double.nearest s (k <<< e) 0) = .number s m i ∧ -1074 ≤ i ∧ signed s m (i + 1074).toNat = signed s (k <<< e) 1074 ∧ rungW (double.nearest s (k <<< e) 0) < 9218868437227405312 := by
  have fin : ∀ (r : Nat), r < 9218868437227405312 → rval r = (k <<< e) <<< 1074 → double.nearest s (k <<< e) 0 = double.word s r →
      ∃ m i, double.read (double.nearest s (k <<< e) 0) = .number s m i ∧ -1074 ≤ i ∧ signed s m (i + 1074).toNat = signed s (k <<< e) 1074 ∧ rungW (double.nearest s (k <<< e) 0) < 9218868437227405312 := by
    intro r hr hv hw
    have h1 := rungW_word s (show r < 9223372036854775808 by omega)
    have h2 := negW_word s (show r < 9223372036854775808 by omega)
    rw [hw]
    obtain ⟨m, i, e1, i1, _, v1, _⟩ := read_fin (x := double.word s r) (by rw [h1]; exact hr)
    rw [h1] at v1
    rw [h2] at e1
    exact ⟨m, i, e1, i1, by rw [signed_val, signed_val, v1, hv], by rw [h1]; exact hr⟩
  by_cases h0 : k <<< e = 0
  · refine fin 0 (by decide) (by rw [h0]; decide) ?_
    unfold Format.nearest
    rw [if_pos h0]
  · have hL1 := Nat.log2_self_le h0
    have hL2 := Nat.lt_log2_self (n := k <<< e)
    have hLe : (k <<< e).log2 ≤ 52 + e := by
      have : k <<< e < 2 ^ (53 + e) := by
        rw [Nat.shiftLeft_eq, Nat.pow_add]
        exact Nat.mul_lt_mul_of_pos_right hk (Nat.two_pow_pos _)
      have h2 := (Nat.log2_lt h0).2 this
      omega
    generalize hc : k <<< e = c at *
    generalize hl : c.log2 = L at *
    have key : ∃ q, 4503599627370496 ≤ q ∧ q < 9007199254740992 ∧ q * 2 ^ L = c * 2 ^ 52 ∧ Toward.even.cut s (c <<< (52 - L)) (L - 52) = q := by
      rcases Nat.le_total L 52 with h | h
      · refine ⟨c * 2 ^ (52 - L), ?_, ?_, ?_, ?_⟩
        · calc 4503599627370496 = 2 ^ L * 2 ^ (52 - L) := by rw [← Nat.pow_add, show L + (52 - L) = 52 by omega]
            _ ≤ _ := Nat.mul_le_mul_right _ hL1
        · calc c * 2 ^ (52 - L) < 2 ^ (L + 1) * 2 ^ (52 - L) := Nat.mul_lt_mul_of_pos_right hL2 (Nat.two_pow_pos _)
            _ = _ := by rw [← Nat.pow_add, show L + 1 + (52 - L) = 53 by omega]
        · rw [Nat.mul_assoc, ← Nat.pow_add, show 52 - L + L = 52 by omega]
        · refine cut_exact _ _ _ _ ?_
          rw [show L - 52 = 0 by omega, Nat.shiftLeft_eq, Nat.pow_zero, Nat.mul_one]
      · have hq : c = k * 2 ^ (e - (L - 52)) * 2 ^ (L - 52) := by
          rw [← hc, Nat.shiftLeft_eq, Nat.mul_assoc, ← Nat.pow_add, show e - (L - 52) + (L - 52) = e by omega]
        generalize k * 2 ^ (e - (L - 52)) = q at hq
        refine ⟨q, ?_, ?_, ?_, ?_⟩
        · have : 2 ^ 52 * 2 ^ (L - 52) ≤ q * 2 ^ (L - 52) := by
            rw [← hq, ← Nat.pow_add, show 52 + (L - 52) = L by omega]; exact hL1
          exact Nat.le_of_mul_le_mul_right this (Nat.two_pow_pos _)
        · have : q * 2 ^ (L - 52) < 2 ^ 53 * 2 ^ (L - 52) := by
            rw [← hq, ← Nat.pow_add, show 53 + (L - 52) = L + 1 by omega]; exact hL2
          exact Nat.lt_of_mul_lt_mul_right this
        · rw [hq, Nat.mul_assoc, ← Nat.pow_add, show L - 52 + 52 = L by omega]
        · refine cut_exact _ _ _ _ ?_
          rw [show 52 - L = 0 by omega]; exact hq
    obtain ⟨q, q1, q2, q3, q4⟩ := key
    have hdiv : ((L + 1022) * 4503599627370496 + q) / 4503599627370496 = L + 1023 := by omega
    have hmod : ((L + 1022) * 4503599627370496 + q) % 4503599627370496 = q - 4503599627370496 := by omega
    refine fin ((L + 1022) * 4503599627370496 + q) (by omega) ?_ ?_
    · rw [rval, if_neg (by omega), hdiv, hmod, show 4503599627370496 + (q - 4503599627370496) = q by omega, show L + 1023 - 1 = L + 1022 by omega]
      rw [Nat.shiftLeft_eq, Nat.shiftLeft_eq, Nat.pow_add, ← Nat.mul_assoc, q3, Nat.mul_assoc, ← Nat.pow_add]
    · unfold Format.nearest
      rw [if_neg h0]
      have b : double.binade = 4503599627370496 := by decide
      have f : double.infRung = 9218868437227405312 := by decide
      have l : double.leastPlace = -1074 := by decide
      have fr : double.fractionBits = 52 := by decide
      simp only [b, f, l, fr, hl]
      rw [show max ((0 : Int) + (L : Int) - ((52 : Nat) : Int)) (-1074) = (L : Int) - 52 by omega]
      rw [show ((0 : Int) - ((L : Int) - 52)).toNat = 52 - L by omega, show ((L : Int) - 52 - 0).toNat = L - 52 by omega, q4, show ((L : Int) - 52 - -1074).toNat = L + 1022 by omega]
      rw [Nat.min_eq_left (by omega)]

theorem shl_lt {a b : Nat} (k : Nat) (h : a < b) : a <<< k < b <<< k := by
  rw [Nat.shiftLeft_eq, Nat.shiftLeft_eq]; exact Nat.mul_lt_mul_of_pos_right h (Nat.two_pow_pos _)
theorem shl_le {a b : Nat} (k : Nat) (h : a ≤ b) : a <<< k ≤ b <<< k := by
  rw [Nat.shiftLeft_eq, Nat.shiftLeft_eq]; exact Nat.mul_le_mul_right _ h
theorem shl_div_le (m a b : Nat) : (m / 2 ^ a) <<< (a + b) ≤ m <<< b := by
  rw [Nat.shiftLeft_add]; exact shl_le _ (by rw [Nat.shiftLeft_eq]; exact Nat.div_mul_le_self _ _)
theorem shl_div_lt (m a b : Nat) : m <<< b < (m / 2 ^ a + 1) <<< (a + b) := by
  rw [Nat.shiftLeft_add]; exact shl_lt _ (by rw [Nat.shiftLeft_eq]; exact (Nat.div_lt_iff_lt_mul (Nat.two_pow_pos _)).1 (Nat.lt_succ_self _))

/-- a float cut towards zero, as a whole number: none where it is not finite -/
def wholeF (x : Nat) : Option Int := (double.read x).toInt .zero
def truncW (x : Nat) : Nat := double.write ((double.read x).integral .zero)

theorem wholeF_fin {x : Nat} (h : rungW x < 9218868437227405312) : ∃ k e, k < 9007199254740992 ∧ e ≤ 971 ∧ wholeF x = some (signed (negW x) (k <<< e) 0) ∧ truncW x = double.nearest (negW x) (k <<< e) 0 ∧
    (k <<< e) <<< 1074 ≤ rval (rungW x) ∧ rval (rungW x) < (k <<< e + 1) <<< 1074 := by
  obtain ⟨m, i, e1, i1, i2, v1, hm⟩ := read_fin h
  unfold wholeF truncW Datum.toInt
  rw [e1]
  simp only [Datum.integral, Format.write]
  have hcut : ∀ n d, Toward.zero.cut (negW x) n d = n / 2 ^ min d (n.log2 + 2) := by
    intro n d
    unfold Toward.cut
    simp [Nat.shiftLeft_eq]
  by_cases hi : 0 ≤ i
  · have hv : (m <<< i.toNat) <<< 1074 = rval (rungW x) := by
      rw [← v1, ← Nat.shiftLeft_add]; congr 1; omega
    refine ⟨m, i.toNat, hm, by omega, ?_, ?_, Nat.le_of_eq hv, ?_⟩
    · rw [hcut, show (-i).toNat = 0 by omega]; simp
    · rw [hcut, show (-i).toNat = 0 by omega]; simp
    · rw [← hv]; exact shl_lt _ (Nat.lt_succ_self _)
  · have hdiv : m / 2 ^ min (-i).toNat (m.log2 + 2) = m / 2 ^ (-i).toNat := by
      rcases Nat.le_total (-i).toNat (m.log2 + 2) with h1 | h1
      · rw [Nat.min_eq_left h1]
      · rw [Nat.min_eq_right h1]
        have h2 := Nat.lt_log2_self (n := m)
        have h3 : 2 ^ (m.log2 + 1) ≤ 2 ^ (m.log2 + 2) := Nat.pow_le_pow_right (by decide) (by omega)
        have h4 : 2 ^ (m.log2 + 2) ≤ 2 ^ (-i).toNat := Nat.pow_le_pow_right (by decide) h1
        rw [Nat.div_eq_of_lt (by omega), Nat.div_eq_of_lt (by omega)]
    refine ⟨m / 2 ^ (-i).toNat, 0, Nat.lt_of_le_of_lt (Nat.div_le_self _ _) hm, by omega, ?_, ?_, ?_, ?_⟩
    · rw [show i.toNat = 0 by omega, Nat.shiftLeft_zero, hcut, hdiv]; simp
    · rw [show i.toNat = 0 by omega, Nat.shiftLeft_zero, hcut, hdiv]; simp
    · have := shl_div_le m (-i).toNat (i + 1074).toNat
      rw [v1, show (-i).toNat + (i + 1074).toNat = 1074 by omega] at this
      rw [Nat.shiftLeft_zero]; exact this
    · have := shl_div_lt m (-i).toNat (i + 1074).toNat
      rw [v1, show (-i).toNat + (i + 1074).toNat = 1074 by omega] at this
      rw [Nat.shiftLeft_zero]; exact this

/-- the least float of 64 bits that is no whole number of 64 bits -/
def W63 : Nat := 4890909195324358656

theorem rval_W63 : rval W63 = 9223372036854775808 <<< 1074 := by decide +kernel
theorem rval_W63s : (9223372036854775808 + 1) <<< 1074 ≤ rval (W63 + 1) := by decide +kernel

/-- 'int(f)' of a float that is cut: the number, if it is one of 64 bits -/
def intF (x : Nat) : Option Int :=
  match wholeF x with
  | some n => if -9223372036854775808 ≤ n ∧ n ≤ 9223372036854775807 then some n else none
  | none => none

theorem shl_le_iff (a b k : Nat) : a <<< k ≤ b <<< k ↔ a ≤ b := ⟨fun h => by
  rcases Nat.lt_or_ge b a with h1 | h1
  · have := shl_lt k h1; omega
  · exact h1, shl_le k⟩
theorem shl_lt_iff (a b k : Nat) : a <<< k < b <<< k ↔ a < b := ⟨fun h => by
  rcases Nat.lt_or_ge a b with h1 | h1
  · exact h1
  · have := shl_le k h1; omega, shl_lt k⟩

/-- a float is an int's just where it lies between -2^63 and 2^63 -/
theorem intF_range (x : Nat) : (intF x).isSome = decide (rungW x ≤ 9218868437227405312 ∧ -(W63 : Int) ≤ sr x ∧ sr x < W63) := by
  have hW : W63 = 4890909195324358656 := rfl
  rcases Nat.lt_trichotomy (rungW x) 9218868437227405312 with h | h | h
  · obtain ⟨k, e, _, _, h1, _, h3, h4⟩ := wholeF_fin h
    generalize k <<< e = c at *
    have a1 : c < 9223372036854775808 → rungW x < W63 := fun hc => by
      rcases Nat.lt_or_ge (rungW x) W63 with h5 | h5
      · exact h5
      · have h6 : rval W63 ≤ rval (rungW x) := by
          rcases Nat.lt_or_eq_of_le h5 with h7 | h7
          · exact Nat.le_of_lt (rval_lt h7)
          · rw [h7]; exact Nat.le_refl _
        rw [rval_W63] at h6
        have h7 := (shl_lt_iff _ _ _).1 (Nat.lt_of_le_of_lt h6 h4)
        omega
    have a2 : rungW x < W63 → c < 9223372036854775808 := fun hc => by
      have h6 := rval_lt hc
      rw [rval_W63] at h6
      exact (shl_lt_iff _ _ _).1 (Nat.lt_of_le_of_lt h3 h6)
    have a3 : c ≤ 9223372036854775808 → rungW x ≤ W63 := fun hc => by
      rcases Nat.lt_or_ge W63 (rungW x) with h5 | h5
      · have h6 : rval (W63 + 1) ≤ rval (rungW x) := by
          rcases Nat.lt_or_eq_of_le (show W63 + 1 ≤ rungW x from h5) with h7 | h7
          · exact Nat.le_of_lt (rval_lt h7)
          · rw [h7]; exact Nat.le_refl _
        have h7 := (shl_lt_iff _ _ _).1 (Nat.lt_of_le_of_lt (Nat.le_trans rval_W63s h6) h4)
        omega
      · exact h5
    have a4 : rungW x ≤ W63 → c ≤ 9223372036854775808 := fun hc => by
      have h6 : rval (rungW x) ≤ rval W63 := by
        rcases Nat.lt_or_eq_of_le hc with h7 | h7
        · exact Nat.le_of_lt (rval_lt h7)
        · rw [h7]; exact Nat.le_refl _
      rw [rval_W63] at h6
      exact (shl_le_iff _ _ _).1 (Nat.le_trans h3 h6)
    unfold intF sr
    rw [h1, signed_val, Nat.shiftLeft_zero]
    simp only
    cases negW x
    · simp only [Bool.false_eq_true, if_false]
      by_cases hc : c < 9223372036854775808
      · have := a1 hc
        rw [if_pos (by omega)]; symm; simp; omega
      · have : ¬ rungW x < W63 := fun hh => hc (a2 hh)
        rw [if_neg (by omega)]; symm; simp; omega
    · simp only [if_true]
      by_cases hc : c ≤ 9223372036854775808
      · have := a3 hc
        rw [if_pos (by omega)]; symm; simp; omega
      · have : ¬ rungW x ≤ W63 := fun hh => hc (a4 hh)
        rw [if_neg (by omega)]; symm; simp; omega
  · unfold intF wholeF Datum.toInt
    rw [read_inf h]
    unfold sr
    simp only [Datum.integral]
    symm; simp
    intro _
    rw [h, hW]
    cases negW x <;> simp
  · unfold intF wholeF Datum.toInt
    obtain ⟨t, ht⟩ := read_nan h
    rw [ht]
    simp only [Datum.integral]
    symm; simp
    intro hh; omega

theorem trunc_int (x : Nat) (h : rungW x ≤ 9218868437227405312) : intF (truncW x) = intF x ∧ rungW (truncW x) ≤ 9218868437227405312 := by
  rcases Nat.lt_or_eq_of_le h with h | h
  · obtain ⟨k, e, hk, he, h1, h2, h3, h4⟩ := wholeF_fin h
    obtain ⟨m, i, e1, i1, v1, hr⟩ := write_whole (negW x) k e hk he
    rw [← h2] at e1 hr
    refine ⟨?_, Nat.le_of_lt hr⟩
    obtain ⟨k', e', _, _, g1, _, g3, g4⟩ := wholeF_fin hr
    obtain ⟨m', i', e2, i2, _, v2, _⟩ := read_fin hr
    rw [e1] at e2
    injection e2 with f1 f2 f3
    subst f2; subst f3
    have hc : rval (rungW (truncW x)) = (k <<< e) <<< 1074 := by
      rw [← v2]
      rw [signed_val, signed_val] at v1
      generalize m <<< (i + 1074).toNat = p at *
      generalize (k <<< e) <<< 1074 = q at *
      split at v1 <;> omega
    rw [hc] at g3 g4
    have : k' <<< e' = k <<< e := by
      have l1 := (shl_le_iff _ _ _).1 g3
      have l2 := (shl_lt_iff _ _ _).1 g4
      omega
    unfold intF
    rw [g1, h1, this, ← f1]
  · have hr := read_inf h
    have ht : truncW x = double.word (negW x) 9218868437227405312 := by
      unfold truncW; rw [hr]; rfl
    have h1 := rungW_word (negW x) (show 9218868437227405312 < 9223372036854775808 by decide)
    refine ⟨?_, by rw [ht, h1]; decide⟩
    unfold intF wholeF Datum.toInt
    rw [hr, ht, read_inf h1]
    rfl

theorem sr_lo : sr 14114281232179134464 = -(W63 : Int) := by decide
theorem sr_hi : sr 4890909195324358656 = (W63 : Int) := by decide
theorem rg_lo : rungW 14114281232179134464 ≤ 9218868437227405312 := by decide
theorem rg_hi : rungW 4890909195324358656 ≤ 9218868437227405312 := by decide

theorem order_nan {x y : Nat} (h : 9218868437227405312 < rungW x) : double.order x y = none := by
  obtain ⟨t, ht⟩ := read_nan h
  show Datum.order (double.read x) (double.read y) = none
  rw [ht]; rfl
theorem order_nan' {x y : Nat} (h : 9218868437227405312 < rungW y) : double.order x y = none := by
  obtain ⟨t, ht⟩ := read_nan h
  show Datum.order (double.read x) (double.read y) = none
  rw [ht]; cases double.read x <;> rfl

theorem ge_lo (x : Nat) : (double.order x 14114281232179134464 == some .gt || double.order x 14114281232179134464 == some .eq) = decide (rungW x ≤ 9218868437227405312 ∧ -(W63 : Int) ≤ sr x) := by
  rcases Nat.lt_or_ge 9218868437227405312 (rungW x) with h | h
  · rw [order_nan h]; symm; simp; omega
  · rw [order_sr h rg_lo, sr_lo]
    rcases Int.lt_trichotomy (sr x) (-(W63 : Int)) with h1 | h1 | h1
    · rw [Int.compare_eq_lt.2 h1]; symm; simp; omega
    · rw [h1]; symm; simp; exact h
    · rw [Int.compare_eq_gt.2 h1]; symm; simp; omega
theorem lt_hi (x : Nat) : (double.order x 4890909195324358656 == some .lt) = decide (rungW x ≤ 9218868437227405312 ∧ sr x < W63) := by
  rcases Nat.lt_or_ge 9218868437227405312 (rungW x) with h | h
  · rw [order_nan h]; symm; simp; omega
  · rw [order_sr h rg_hi, sr_hi]
    rcases Int.lt_trichotomy (sr x) (W63 : Int) with h1 | h1 | h1
    · rw [Int.compare_eq_lt.2 h1]; symm; simp; omega
    · rw [h1]; symm; simp
    · rw [Int.compare_eq_gt.2 h1]; symm; simp; omega

/-- the test that val makes of the float that is cut -/
theorem cast_test (x : Nat) : ((double.order x 14114281232179134464 == some .gt || double.order x 14114281232179134464 == some .eq) && double.order x 4890909195324358656 == some .lt) = (intF x).isSome := by
  rw [ge_lo, lt_hi, intF_range]
  by_cases h1 : rungW x ≤ 9218868437227405312 <;> simp [h1]

end Go.Proofs.YtjnkkjeneomckaaDoor
