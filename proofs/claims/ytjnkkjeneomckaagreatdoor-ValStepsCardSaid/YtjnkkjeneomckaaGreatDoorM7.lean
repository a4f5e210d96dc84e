/- The document's steps over one value are the program's. The document's steps over two values are the program's. The walk of 'ValSteps': every step answers what the document says. 'ValSteps' at every argument. -/
import Derived.Test.YtjnkkjeneomckaaGreatDoorPRSx2
import Derived.Test.YtjnkkjeneomckaaGreatDoorM6
import Derived.Test.YtjnkkjeneomckaaGreatDoorPRSx5
namespace Go.Proofs.YtjnkkjeneomckaaGreatDoor
set_option linter.unusedVariables false
set_option linter.unusedSimpArgs false
open Go.RowKit PRS

theorem plain_f (b : Int) (h : U64 b) : freshetref01_Plain.f b = some (plainI b) := by
  have hn := fNaN_and b h
  have hm : fNaN 9223372036854775808 = false := by kernel_rfl
  unfold freshetref01_Plain.f freshetref01_isNaN.f
  simp only [Option.bind_some, gt_iff_lt, hn]
  by_cases e : b = 9223372036854775808
  · subst e; rw [if_pos rfl]; simp [plainI, hm]
  · rw [if_neg e]
    cases hN : fNaN b
    · have e2 : (b == 9223372036854775808) = false := by simpa using e
      simp [plainI, hN, e2]
    · simp [plainI, hN]
theorem ofFloat_f (b : Int) (h : U64 b) : freshetref01_OfFloat.f b = some (3, 0, plainI b, ⟨#[]⟩) := by
  unfold freshetref01_OfFloat.f; rw [plain_f b h]; rfl
theorem ofBool_f (b : Bool) : freshetref01_OfBool.f b = some (1, b2i b, 0, ⟨#[]⟩) := by cases b <;> rfl
theorem xor63 (f : Int) (h : U64 f) : bits .xor .u64 f 9223372036854775808 = (Op.negFloat .f64 f.toNat : Int) ∧ U64 (Op.negFloat .f64 f.toNat : Int) := by
  obtain ⟨h0, h1⟩ := h
  have e0 : Op.negFloat .f64 f.toNat = f.toNat ^^^ 2 ^ 63 := rfl
  have lt : f.toNat ^^^ 2 ^ 63 < 2 ^ 64 := Nat.xor_lt_two_pow (by omega) (by decide)
  refine ⟨?_, by omega, by rw [e0]; omega⟩
  rw [e0]
  show IntKind.u64.wrap (((BitVec.ofInt 64 f) ^^^ (BitVec.ofInt 64 9223372036854775808)).toNat : Int) = _
  rw [BitVec.toNat_xor, BitVec.toNat_ofInt, BitVec.toNat_ofInt]
  have e1 : ((9223372036854775808 : Int) % ((2 ^ 64 : Nat) : Int)).toNat = 2 ^ 63 := by decide
  have e2 : (f % ((2 ^ 64 : Nat) : Int)).toNat = f.toNat := by
    have : ((2 ^ 64 : Nat) : Int) = 18446744073709551616 := by decide
    omega
  rw [e1, e2, IntKind.wrap_u64]
  omega

theorem rOne_eq (m : Nat) (code kind k n f : Int) (t : ByteArray) (hn : I64 n) (hf : U64 f) : freshetref01_One.f (m + 1) code kind k n f t = some (tupD (oneS code kind k n f t)) := by
  have hs : xrSound.f k n f t = some (soundV k n f t) := if_pos hf
  have hj : ∀ b : Bool, b = true → freshetref01_One.j0 (m + 1) code kind b k n f t = some (tupD (.error 1)) := fun b hb => by subst hb; rfl
  unfold freshetref01_One.f
  rw [hs]
  simp only [Option.bind_some]
  cases h : soundV k n f t
  · simp only [Bool.false_eq_true, if_false]
    rw [hj true rfl]; simp [oneS, h]
  · simp only [if_true]
    rcases (by omega : code < 3 ∨ code = 3 ∨ code = 4 ∨ code = 5 ∨ code = 6 ∨ code > 6) with c | rfl | rfl | rfl | rfl | c
    · rw [if_pos c, hj true rfl]
      have e3 : (code == 3) = false := by simp; omega
      have e4 : (code == 4) = false := by simp; omega
      have e5 : (code == 5) = false := by simp; omega
      have e6 : (code == 6) = false := by simp; omega
      simp [oneS, h, e3, e4, e5, e6]
    · -- negation
      rw [if_neg (by omega), if_neg (by omega), if_neg (by omega)]
      simp only [freshetref01_One.j0]
      rw [if_neg (by simp), if_neg (by omega)]
      by_cases k0 : k = 0
      · subst k0; simp [oneS, h, tupD, resV]
      · rw [if_neg k0, if_neg (by omega), if_neg (by omega)]
        have e0 : (k == 0) = false := by simpa using k0
        by_cases k3 : k = 3
        · subst k3
          obtain ⟨x1, x2⟩ := xor63 f hf
          rw [if_pos rfl, x1, ofFloat_f _ x2]
          simp [oneS, h, negS, tupD, resV]
        · rw [if_neg k3]
          by_cases k2 : k = 2
          · subst k2
            rw [if_pos rfl]
            by_cases hm : n = -9223372036854775808
            · subst hm; simp [oneS, h, negS, tupD, resV]
            · have e : (n == -9223372036854775808) = false := by simpa using hm
              have hw : wrap64 (-n) = -n := by obtain ⟨n1, n2⟩ := hn; unfold wrap64; omega
              rw [if_neg hm, hw]; simp [oneS, h, negS, tupD, resV, e, freshetref01_OfInt.f]
          · rw [if_neg k2]
            have e2 : (k == 2) = false := by simpa using k2
            have e3 : (k == 3) = false := by simpa using k3
            simp [oneS, h, e0, negS, e2, e3, tupD, resV]
    · -- not
      rw [if_neg (by omega), if_neg (by omega), if_neg (by omega)]
      simp only [freshetref01_One.j0]
      rw [if_neg (by simp), if_neg (by omega)]
      by_cases k0 : k = 0
      · subst k0; simp [oneS, h, tupD, resV]
      · rw [if_neg k0, if_neg (by omega), if_pos trivial]
        have e0 : (k == 0) = false := by simpa using k0
        by_cases k1 : k = 1
        · subst k1; rw [if_pos rfl, ofBool_f]; simp [oneS, h, tupD, resV]
        · rw [if_neg k1]
          have e1 : (k == 1) = false := by simpa using k1
          simp [oneS, h, e0, e1, tupD, resV]
    · -- is it NULL
      rw [if_neg (by omega), if_neg (by omega), if_neg (by omega)]
      simp only [freshetref01_One.j0]
      rw [if_neg (by simp), if_pos trivial, ofBool_f]
      simp [oneS, h, tupD, resV]
    · -- a cast
      rw [if_neg (by omega), if_neg (by omega), if_pos rfl]
      by_cases b1 : kind < 1
      · rw [if_pos b1, hj true rfl]
        have e : decide (1 ≤ kind) = false := by simp; omega
        simp [oneS, h, e]
      · rw [if_neg b1]
        have e : decide (1 ≤ kind) = true := by simp; omega
        by_cases b2 : kind > 4
        · rw [hj _ (by simpa using b2)]
          have e2 : decide (kind ≤ 4) = false := by simp; omega
          simp [oneS, h, e, e2]
        · have e2 : decide (kind ≤ 4) = true := by simp; omega
          rw [show decide (kind > 4) = false by simp; omega]
          simp only [freshetref01_One.j0]
          rw [if_neg (by simp), if_neg (by omega)]
          by_cases k0 : k = 0
          · subst k0; simp [oneS, h, e, e2, tupD, resV]
          · have e0 : (k == 0) = false := by simpa using k0
            rw [if_neg k0, if_pos trivial]
            by_cases kk : k = kind
            · subst kk; rw [if_pos rfl]; simp [oneS, h, e, e2, e0, castS, tupD, resV]
            · rw [if_neg kk]
              have hc : xrCast.f k n f t kind = some (tupD (castS k n f t kind)) := if_pos ⟨hn, hf, kk⟩
              rw [hc]
              simp [oneS, h, e, e2, e0]
    · rw [if_neg (by omega), if_pos c, hj true rfl]
      have e3 : (code == 3) = false := by simp; omega
      have e4 : (code == 4) = false := by simp; omega
      have e5 : (code == 5) = false := by simp; omega
      have e6 : (code == 6) = false := by simp; omega
      simp [oneS, h, e3, e4, e5, e6]

end Go.Proofs.YtjnkkjeneomckaaGreatDoor

namespace Go.Proofs.YtjnkkjeneomckaaGreatDoor
set_option linter.unusedVariables false
set_option linter.unusedSimpArgs false
open Go.RowKit PRS

def hasB (code k : Int) : Bool := (decide (16 ≤ code) && decide (code ≤ 21)) || (if code == 15 then k == 4 else (k == 2 || (k == 3 && code != 14)))
theorem has_eq (m : Nat) (code k : Int) : freshetref01_has.f (m + 1) code k = some (hasB code k) := by
  have hj : ∀ b : Bool, freshetref01_has.j0 (m + 1) code k b = some (b || (if code == 15 then k == 4 else (k == 2 || (k == 3 && code != 14)))) := fun b => by
    simp only [freshetref01_has.j0]
    cases b
    · rw [if_neg (by simp)]
      by_cases c : code = 15
      · subst c; simp
      · rw [if_neg c]
        have e : (code == 15) = false := by simpa using c
        rw [e]
        by_cases k2 : k = 2
        · subst k2; simp
        · rw [if_neg k2]
          have e2 : (k == 2) = false := by simpa using k2
          rw [e2]
          by_cases k3 : k = 3
          · subst k3; simp
          · rw [if_neg k3]
            have e3 : (k == 3) = false := by simpa using k3
            rw [e3]; simp
    · rw [if_pos rfl]; simp
  unfold freshetref01_has.f hasB
  by_cases c : code ≥ 16
  · rw [if_pos c, hj]
    have : decide (16 ≤ code) = true := by simp; omega
    rw [this]; simp
  · rw [if_neg c, hj]
    have : decide (16 ≤ code) = false := by simp; omega
    rw [this]; simp

theorem fits_has (code k : Int) (h : code ≤ 21) : fitsB code k = (k == 0 || hasB code k) := by
  unfold fitsB hasB
  by_cases k0 : k = 0
  · subst k0; simp
  · have e : (k == 0) = false := by simpa using k0
    rw [e]
    by_cases c16 : 16 ≤ code
    · have e1 : decide (16 ≤ code) = true := by simpa using c16
      have e2 : decide (code ≤ 21) = true := by simpa using h
      rw [e1, e2]; simp
    · have e1 : decide (16 ≤ code) = false := by simpa using c16
      rw [e1]
      by_cases c15 : code = 15
      · subst c15; simp
      · have e15 : (code == 15) = false := by simpa using c15
        rw [e15]
        by_cases c14 : code = 14
        · subst c14; simp
        · have e14 : (code == 14) = false := by simpa using c14
          have e14' : (code != 14) = true := by simpa using c14
          rw [e14, e14']; simp

theorem eqV_print (k n f : Int) (t : ByteArray) (b : Int) : (k == 1 && (n == b && (f == 0 && (t.toList == (⟨#[]⟩ : ByteArray).toList)))) = eqV k n f t 1 b 0 ⟨#[]⟩ := by
  unfold eqV
  have : (t.toList == (⟨#[]⟩ : ByteArray).toList) = decide (t = ⟨#[]⟩) := by
    rw [Bool.eq_iff_iff]; simp only [beq_iff_eq, decide_eq_true_eq, toList_inj]
  rw [this]
  cases (k == 1) <;> cases (n == b) <;> cases (f == 0) <;> simp

theorem logic_eq (m : Nat) (code k n f : Int) (t : ByteArray) (k' n' f' : Int) (t' : ByteArray) : freshetref01_logic.f (m + 2) code k n f t k' n' f' t' = some (tupD (logicS code k n f t k' n' f' t')) := by
  have h1 : ∀ b : Bool, freshetref01_logic.j0 (m + 2) code b k n f t k' n' f' t' = some (tupD (if b then .error 1 else if eqV k n f t 1 (b2i (code == 23)) 0 ⟨#[]⟩ || eqV k' n' f' t' 1 (b2i (code == 23)) 0 ⟨#[]⟩ then .ok ⟨1, b2i (code == 23), 0, ⟨#[]⟩⟩
      else if k == 0 || k' == 0 then .ok ⟨0, 0, 0, ⟨#[]⟩⟩ else .ok ⟨1, b2i (code == 22), 0, ⟨#[]⟩⟩)) := fun b => by
    have h2 : ∀ c : Bool, freshetref01_logic.j1 (m + 1) code c k n f t k' n' f' t' 1 (b2i (code == 23)) 0 ⟨#[]⟩ = some (tupD (if c then .ok ⟨1, b2i (code == 23), 0, ⟨#[]⟩⟩
        else if k == 0 || k' == 0 then .ok ⟨0, 0, 0, ⟨#[]⟩⟩ else .ok ⟨1, b2i (code == 22), 0, ⟨#[]⟩⟩)) := fun c => by
      simp only [freshetref01_logic.j1]
      cases c
      · rw [if_neg (by simp)]
        by_cases k0 : k = 0
        · subst k0; simp [tupD, resV]
        · rw [if_neg k0]
          have e : (k == 0) = false := by simpa using k0
          by_cases k0' : k' = 0
          · subst k0'; simp [tupD, resV]
          · rw [if_neg k0', ofBool_f]
            have e' : (k' == 0) = false := by simpa using k0'
            simp [e, e', tupD, resV]
      · rw [if_pos rfl]; simp [tupD, resV]
    simp only [freshetref01_logic.j0]
    cases b
    · rw [if_neg (by simp), ofBool_f]
      simp only [Option.bind_some, eqV_print]
      cases eqV k n f t 1 (b2i (code == 23)) 0 ⟨#[]⟩
      · rw [if_neg (by simp), h2]; simp
      · rw [if_pos rfl, h2]; simp
    · rw [if_pos rfl]; simp [tupD, resV]
  unfold freshetref01_logic.f logicS
  by_cases a : k > 1
  · rw [if_pos a, h1]
    have : decide (max k k' ≤ 1) = false := by simp; omega
    rw [this]; simp
  · rw [if_neg a, h1]
    have : decide (k' > 1) = !decide (max k k' ≤ 1) := by
      by_cases b : k' > 1
      · have : decide (max k k' ≤ 1) = false := by simp; omega
        rw [this]; simp; omega
      · have : decide (max k k' ≤ 1) = true := by simp; omega
        rw [this]; simp; omega
    rw [this]

/-! ### whole numbers -/

theorem ofInt_f (n : Int) : freshetref01_OfInt.f n = some (2, n, 0, ⟨#[]⟩) := rfl
def okI (n : Int) : Option (Int × Int × Int × ByteArray × Int) := some (2, n, 0, ⟨#[]⟩, 0)
theorem ofInt_b (n : Int) : ((freshetref01_OfInt.f n).bind fun b => some (b.1, b.2.1, b.2.2.1, b.2.2.2, (0 : Int))) = okI n := rfl
def erI (c : Int) : Option (Int × Int × Int × ByteArray × Int) := some (0, 0, 0, ⟨#[]⟩, c)
theorem tup_ok (n : Int) : some (tupD (addI (.ok n))) = okI n := rfl
theorem tup_er (c : Int) : some (tupD (addI (.error c))) = erI c := rfl
theorem fit_in {x : Int} (h : -9223372036854775808 ≤ x ∧ x ≤ 9223372036854775807) : fitI x = .ok x := if_pos h
theorem fit_out {x : Int} (h : ¬ (-9223372036854775808 ≤ x ∧ x ≤ 9223372036854775807)) : fitI x = .error 11 := if_neg h

theorem ints_add (a b : Int) (ha : I64 a) (hb : I64 b) : freshetref01_ints.f 10 a b = some (tupD (addI (fitI (a + b)))) := by
  obtain ⟨a1, a2⟩ := ha; obtain ⟨b1, b2⟩ := hb
  unfold freshetref01_ints.f
  simp only [ofInt_b, if_true]
  by_cases h : -9223372036854775808 ≤ a + b ∧ a + b ≤ 9223372036854775807
  · have hw : wrap64 (a + b) = a + b := by unfold wrap64; omega
    rw [fit_in h, tup_ok, hw]
    by_cases c : b ≥ 0
    · rw [if_pos c, if_neg (by omega), if_neg (by omega)]
    · rw [if_neg c, if_pos (by omega), if_neg (by omega)]
  · rw [fit_out h, tup_er]
    by_cases c : b ≥ 0
    · have hw : wrap64 (a + b) = a + b - 18446744073709551616 := by unfold wrap64; omega
      rw [if_pos c, hw, if_pos (by omega)]; rfl
    · have hw : wrap64 (a + b) = a + b + 18446744073709551616 := by unfold wrap64; omega
      rw [if_neg c, if_pos (by omega), hw, if_pos (by omega)]; rfl
theorem ints_sub (a b : Int) (ha : I64 a) (hb : I64 b) : freshetref01_ints.f 11 a b = some (tupD (addI (fitI (a - b)))) := by
  obtain ⟨a1, a2⟩ := ha; obtain ⟨b1, b2⟩ := hb
  unfold freshetref01_ints.f
  rw [if_neg (by decide)]
  simp only [ofInt_b, if_true]
  by_cases h : -9223372036854775808 ≤ a - b ∧ a - b ≤ 9223372036854775807
  · have hw : wrap64 (a - b) = a - b := by unfold wrap64; omega
    rw [fit_in h, tup_ok, hw]
    by_cases c : b ≥ 0
    · rw [if_pos c, if_neg (by omega), if_neg (by omega)]
    · rw [if_neg c, if_pos (by omega), if_neg (by omega)]
  · rw [fit_out h, tup_er]
    by_cases c : b ≥ 0
    · have hw : wrap64 (a - b) = a - b + 18446744073709551616 := by unfold wrap64; omega
      rw [if_pos c, hw, if_pos (by omega)]; rfl
    · have hw : wrap64 (a - b) = a - b - 18446744073709551616 := by unfold wrap64; omega
      rw [if_neg c, if_pos (by omega), hw, if_pos (by omega)]; rfl

theorem mul_div_back {a b : Int} (ha0 : a ≠ 0) (hb : I64 b) : wrap64 (Int.tdiv (a * b) a) = b := by
  rw [Int.mul_tdiv_cancel_left _ ha0]; obtain ⟨b1, b2⟩ := hb; unfold wrap64; omega

theorem mul_over {a b : Int} (ha : I64 a) (hb : I64 b) (ha0 : a ≠ 0) (ha1 : a ≠ -1) (h : ¬ (-9223372036854775808 ≤ a * b ∧ a * b ≤ 9223372036854775807)) : ¬ wrap64 (Int.tdiv (wrap64 (a * b)) a) = b := by
  intro e
  have hw : ∃ q : Int, q ≠ 0 ∧ wrap64 (a * b) = a * b + 18446744073709551616 * q := by
    refine ⟨-((a * b + 9223372036854775808) / 18446744073709551616), ?_, by unfold wrap64; omega⟩
    intro h0; apply h; omega
  obtain ⟨q, hq, hw⟩ := hw
  have hcr : -9223372036854775808 ≤ wrap64 (a * b) ∧ wrap64 (a * b) ≤ 9223372036854775807 := by unfold wrap64; omega
  generalize wrap64 (a * b) = c at *
  have hd : I64 (Int.tdiv c a) := tdiv_range hcr ha1 ha0
  have e2 : Int.tdiv c a = b := by
    obtain ⟨d1, d2⟩ := hd
    have : wrap64 (Int.tdiv c a) = Int.tdiv c a := by unfold wrap64; omega
    rw [this] at e; exact e
  have hm := Int.tmod_add_mul_tdiv c a
  rw [e2] at hm
  have hr : (Int.tmod c a).natAbs < a.natAbs := by
    rw [Int.natAbs_tmod]; exact Nat.mod_lt _ (Int.natAbs_pos.2 ha0)
  obtain ⟨a1, a2⟩ := ha
  have : Int.tmod c a = 18446744073709551616 * q := by omega
  omega

theorem ints_mul (a b : Int) (ha : I64 a) (hb : I64 b) : freshetref01_ints.f 12 a b = some (tupD (addI (fitI (a * b)))) := by
  have ha' := ha; have hb' := hb
  obtain ⟨a1, a2⟩ := ha; obtain ⟨b1, b2⟩ := hb
  unfold freshetref01_ints.f
  rw [if_neg (by decide), if_neg (by decide)]
  simp only [ofInt_b, if_true]
  by_cases am : a = -1
  · subst am
    rw [if_pos rfl]
    have e : (-1 : Int) * b = -b := by omega
    rw [e]
    by_cases bm : b = -9223372036854775808
    · rw [if_pos bm, fit_out (by omega), tup_er]; rfl
    · rw [if_neg bm, fit_in (by omega), tup_ok]
      have hw : wrap64 (-b) = -b := by unfold wrap64; omega
      rw [hw]
      by_cases b1 : b = -1
      · rw [if_pos b1, if_neg (by decide), if_neg (by decide)]
      · rw [if_neg b1, if_neg (by decide)]
  · rw [if_neg am]
    by_cases az : a = 0
    · subst az
      have hw : wrap64 ((0 : Int) * b) = 0 := by rw [Int.zero_mul]; unfold wrap64; omega
      rw [hw, Int.zero_mul, fit_in (by decide), tup_ok]
      by_cases b1 : b = -1
      · rw [if_pos b1, if_neg (by decide), if_pos rfl]
      · rw [if_neg b1, if_pos rfl]
    · by_cases h : -9223372036854775808 ≤ a * b ∧ a * b ≤ 9223372036854775807
      · have hw : wrap64 (a * b) = a * b := by unfold wrap64; omega
        have hd := mul_div_back az hb'
        rw [hw, fit_in h, tup_ok]
        by_cases b1 : b = -1
        · have : a ≠ -9223372036854775808 := by rintro rfl; subst b1; revert h; decide
          rw [if_pos b1, if_neg this, if_neg az, if_pos hd]
        · rw [if_neg b1, if_neg az, if_pos hd]
      · have hd := mul_over ha' hb' az am h
        rw [fit_out h, tup_er]
        by_cases b1 : b = -1
        · by_cases a3 : a = -9223372036854775808
          · rw [if_pos b1, if_pos a3]; rfl
          · exfalso; apply h; subst b1; omega
        · rw [if_neg b1, if_neg az, if_neg hd]; rfl

theorem ints_div (a b : Int) (ha : I64 a) (hb : I64 b) (code : Int) (hc : code = 13 ∨ code = 14) : freshetref01_ints.f code a b = some (tupD (addI (intsS code a b))) := by
  have ha' := ha
  obtain ⟨a1, a2⟩ := ha; obtain ⟨b1, b2⟩ := hb
  unfold freshetref01_ints.f
  rw [if_neg (by omega), if_neg (by omega), if_neg (by omega)]
  simp only [ofInt_b]
  have e10 : (code == 10) = false := by simp; omega
  have e11 : (code == 11) = false := by simp; omega
  have e12 : (code == 12) = false := by simp; omega
  unfold intsS
  rw [e10, e11, e12]
  simp only [Bool.false_eq_true, if_false]
  by_cases b0 : b = 0
  · subst b0; rw [if_pos rfl]; rfl
  · rw [if_neg b0]
    have e0 : (b == 0) = false := by simpa using b0
    rw [e0]
    simp only [Bool.false_eq_true, if_false]
    by_cases bm : b = -1
    · subst bm
      rw [if_pos rfl]
      rcases hc with rfl | rfl
      · rw [if_neg (by decide)]
        have : Int.tdiv a (-1) = -a := by rw [Int.tdiv_neg, Int.tdiv_one]
        rw [this]
        by_cases am : a = -9223372036854775808
        · rw [if_pos am]
          simp only [show ((13 : Int) == 14) = false from rfl, Bool.false_eq_true, if_false]
          rw [fit_out (by omega), tup_er]; rfl
        · rw [if_neg am]
          simp only [show ((13 : Int) == 14) = false from rfl, Bool.false_eq_true, if_false]
          rw [fit_in (by omega), tup_ok, show wrap64 (-a) = -a by unfold wrap64; omega]
      · rw [if_pos rfl]
        have : Int.tmod a (-1) = 0 := by rw [Int.tmod_neg, Int.tmod_one]
        simp only [show ((14 : Int) == 14) = true from rfl, if_true]
        rw [this, tup_ok]
    · rw [if_neg bm]
      rcases hc with rfl | rfl
      · rw [if_pos rfl]
        simp only [show ((13 : Int) == 14) = false from rfl, Bool.false_eq_true, if_false]
        have hd := tdiv_range ha' bm b0
        obtain ⟨d1, d2⟩ := hd
        rw [fit_in ⟨d1, d2⟩, tup_ok, show wrap64 (Int.tdiv a b) = Int.tdiv a b by unfold wrap64; omega]
      · rw [if_neg (by decide)]
        simp only [show ((14 : Int) == 14) = true from rfl, if_true]
        rw [tup_ok]

theorem ints_eq (code a b : Int) (ha : I64 a) (hb : I64 b) (h1 : 10 ≤ code) (h2 : code ≤ 14) : freshetref01_ints.f code a b = some (tupD (addI (intsS code a b))) := by
  rcases (by omega : code = 10 ∨ code = 11 ∨ code = 12 ∨ code = 13 ∨ code = 14) with rfl | rfl | rfl | rfl | rfl
  · rw [ints_add a b ha hb]; rfl
  · rw [ints_sub a b ha hb]; rfl
  · rw [ints_mul a b ha hb]; rfl
  · exact ints_div a b ha hb 13 (.inl rfl)
  · exact ints_div a b ha hb 14 (.inr rfl)

/-! ### all steps over two values -/

theorem sound_sz {k n f : Int} {t : ByteArray} (h : soundV k n f t = true) : t.size ≤ 4096 := by
  unfold soundV eqV at h
  have z : (⟨#[]⟩ : ByteArray).size = 0 := rfl
  by_cases a0 : k = 0
  · subst a0; simp at h; have e : t = ⟨#[]⟩ := (by first | exact h | exact h.2 | exact h.2.2 | exact h.1.2 | exact h.1.2.2 | exact h.1)
    rw [e, z]; omega
  by_cases a1 : k = 1
  · subst a1; simp at h; have e : t = ⟨#[]⟩ := (by first | exact h | exact h.2 | exact h.2.2 | exact h.1.2 | exact h.1.2.2 | exact h.1)
    rw [e, z]; omega
  by_cases a2 : k = 2
  · subst a2; simp at h; have e : t = ⟨#[]⟩ := (by first | exact h | exact h.2 | exact h.2.2 | exact h.1.2 | exact h.1.2.2 | exact h.1)
    rw [e, z]; omega
  by_cases a3 : k = 3
  · subst a3; simp at h; have e : t = ⟨#[]⟩ := (by first | exact h | exact h.2 | exact h.2.2 | exact h.1.2 | exact h.1.2.2 | exact h.1)
    rw [e, z]; omega
  by_cases a4 : k = 4; · subst a4; simp at h; exact h.2
  simp [a0, a1, a2, a3, a4] at h

theorem ofText_f (t : ByteArray) : freshetref01_OfText.f t = some (tupD (textS t)) := by
  unfold freshetref01_OfText.f textS
  by_cases h : t.size ≤ 4096
  · rw [if_neg (by omega), if_pos h]; rfl
  · rw [if_pos (by omega), if_neg h]; rfl

theorem b2i_cmp (code c : Int) (b : Bool) (h : comparedB code c = b) : ((freshetref01_OfBool.f b).bind fun x => some (x.1, x.2.1, x.2.2.1, x.2.2.2, (0 : Int))) = some (tupD (.ok ⟨1, b2i (comparedB code c), 0, ⟨#[]⟩⟩)) := by
  rw [ofBool_f, h]; rfl

/-- what follows where neither is NULL -/
def twoR (code k n f : Int) (t : ByteArray) (k' n' f' : Int) (t' : ByteArray) : Except Int V :=
  if k == 0 || k' == 0 then .ok ⟨0, 0, 0, ⟨#[]⟩⟩
  else if decide (16 ≤ code) then .ok ⟨1, b2i (comparedB code (cmpV k n f t k' n' f' t')), 0, ⟨#[]⟩⟩
  else if code == 15 then textS (t ++ t')
  else if k == 3 then .ok ⟨3, 0, floatS code f.toNat f'.toNat, ⟨#[]⟩⟩
  else addI (intsS code n n')

theorem j4_eq (m : Nat) (code k n f : Int) (t : ByteArray) (k' n' f' : Int) (t' : ByteArray) (hn : I64 n) (hn' : I64 n') (hf : U64 f) (hf' : U64 f') (h1 : 10 ≤ code) (h2 : code ≤ 21) (hs : t.size + t'.size ≤ 9223372036854775807) (b : Bool) (hb : b = (k == 0 || k' == 0)) :
    freshetref01_Two.j4 (m + 1) code b k n f t k' n' f' t' = some (tupD (twoR code k n f t k' n' f' t')) := by
  have hc : xrCompare.f k n f t k' n' f' t' = some (cmpV k n f t k' n' f' t') := if_pos ⟨hf, hf'⟩
  simp only [freshetref01_Two.j4]
  unfold twoR
  rw [← hb]
  cases b
  · rw [if_neg (by simp), hc]
    simp only [Option.bind_some, Bool.false_eq_true, if_false]
    generalize cmpV k n f t k' n' f' t' = c
    rcases (by omega : code ≤ 14 ∨ code = 15 ∨ code = 16 ∨ code = 17 ∨ code = 18 ∨ code = 19 ∨ code = 20 ∨ code = 21) with x | rfl | rfl | rfl | rfl | rfl | rfl | rfl
    · rw [if_neg (by omega), if_neg (by omega), if_neg (by omega), if_neg (by omega), if_neg (by omega), if_neg (by omega), if_neg (by omega)]
      have e1 : decide (16 ≤ code) = false := by simp; omega
      have e2 : (code == 15) = false := by simp; omega
      rw [e1, e2]
      simp only [Bool.false_eq_true, if_false]
      by_cases k3 : k = 3
      · subst k3; rfl
      · rw [if_neg k3, ints_eq code n n' hn hn' h1 x]
        have e3 : (k == 3) = false := by simpa using k3
        rw [e3]; rfl
    · simp only [show ¬ ((15 : Int) = 16) by decide, show ¬ ((15 : Int) = 17) by decide, show ¬ ((15 : Int) = 18) by decide, show ¬ ((15 : Int) = 19) by decide, show ¬ ((15 : Int) = 20) by decide, show ¬ ((15 : Int) = 21) by decide, if_false, if_true]
      rw [if_pos hs, ofText_f]; rfl
    · exact b2i_cmp 16 c _ rfl
    · exact b2i_cmp 17 c _ rfl
    · exact b2i_cmp 18 c _ rfl
    · exact b2i_cmp 19 c _ rfl
    · exact b2i_cmp 20 c _ rfl
    · exact b2i_cmp 21 c _ rfl
  · rw [if_pos rfl]; rfl

theorem j3_eq (m : Nat) (code k n f : Int) (t : ByteArray) (k' n' f' : Int) (t' : ByteArray) (hn : I64 n) (hn' : I64 n') (hf : U64 f) (hf' : U64 f') (h1 : 10 ≤ code) (h2 : code ≤ 21) (hs : t.size + t'.size ≤ 9223372036854775807) (b : Bool) :
    freshetref01_Two.j3 (m + 2) code b k n f t k' n' f' t' = some (tupD (if b then .error 1 else twoR code k n f t k' n' f' t')) := by
  have h4 := j4_eq m code k n f t k' n' f' t' hn hn' hf hf' h1 h2 hs
  simp only [freshetref01_Two.j3]
  cases b
  · rw [if_neg (by simp)]
    by_cases k0 : k = 0
    · rw [if_pos k0, h4 true (by subst k0; rfl)]; rfl
    · rw [if_neg k0, h4 _ (by have e : (k == 0) = false := by simpa using k0
                              rw [e]; rfl)]; rfl
  · rw [if_pos rfl]; rfl

theorem j2_eq (m : Nat) (code k n f : Int) (t : ByteArray) (k' n' f' : Int) (t' : ByteArray) (hn : I64 n) (hn' : I64 n') (hf : U64 f) (hf' : U64 f') (h1 : 10 ≤ code) (h2 : code ≤ 24) (h22 : code ≠ 22) (h23 : code ≠ 23) (hs : t.size + t'.size ≤ 9223372036854775807) (b : Bool) :
    freshetref01_Two.j2 (m + 3) code b k n f t k' n' f' t' = some (tupD (if b then .error 1 else if code == 24 then (if k == 0 then .ok ⟨k', n', f', t'⟩ else .ok ⟨k, n, f, t⟩)
      else if !(fitsB code k && fitsB code k') then .error 1 else twoR code k n f t k' n' f' t')) := by
  simp only [freshetref01_Two.j2]
  cases b
  · rw [if_neg (by simp)]
    by_cases c24 : code = 24
    · subst c24
      simp only [if_true, show ((24 : Int) == 24) = true from rfl, Bool.false_eq_true, if_false]
      by_cases k0 : k = 0
      · subst k0; rfl
      · have e : (k == 0) = false := by simpa using k0
        rw [if_neg k0, e]; rfl
    · have e24 : (code == 24) = false := by simpa using c24
      have h21 : code ≤ 21 := by omega
      have h3 := j3_eq m code k n f t k' n' f' t' hn hn' hf hf' h1 h21 hs
      rw [if_neg c24, e24]
      simp only [Bool.false_eq_true, if_false]
      rw [fits_has code k h21, fits_has code k' h21]
      simp only [show ∀ x, freshetref01_has.f (m + 2) code x = some (hasB code x) from fun x => has_eq (m + 1) code x, Option.bind_some]
      by_cases k0 : k = 0
      · subst k0
        simp only [if_true, show ((0 : Int) == 0) = true from rfl, Bool.true_or, Bool.true_and]
        by_cases k0' : k' = 0
        · subst k0'; simp only [if_true, show ((0 : Int) == 0) = true from rfl, Bool.true_or, Bool.not_true]; rw [h3]
        · have e' : (k' == 0) = false := by simpa using k0'
          rw [if_neg k0', h3, e', Bool.false_or]
      · have e : (k == 0) = false := by simpa using k0
        rw [if_neg k0, e, Bool.false_or]
        cases hh : hasB code k
        · rw [if_neg (by simp), h3]; rfl
        · rw [if_pos rfl, Bool.true_and]
          by_cases k0' : k' = 0
          · subst k0'; simp only [if_true, show ((0 : Int) == 0) = true from rfl, Bool.true_or, Bool.not_true]; rw [h3]
          · have e' : (k' == 0) = false := by simpa using k0'
            rw [if_neg k0', h3, e', Bool.false_or]
  · rw [if_pos rfl]; rfl

theorem rTwo_eq (m : Nat) (code k n f : Int) (t : ByteArray) (k' n' f' : Int) (t' : ByteArray) (hn : I64 n) (hn' : I64 n') (hf : U64 f) (hf' : U64 f') :
    freshetref01_Two.f (m + 5) code k n f t k' n' f' t' = some (tupD (twoS code k n f t k' n' f' t')) := by
  have s1 : xrSound.f k n f t = some (soundV k n f t) := if_pos hf
  have s2 : xrSound.f k' n' f' t' = some (soundV k' n' f' t') := if_pos hf'
  have j0t : ∀ b : Bool, b = true → freshetref01_Two.j0 (m + 5) code b k n f t k' n' f' t' = some (tupD (.error 1)) := fun b hb => by subst hb; rfl
  unfold freshetref01_Two.f
  rw [s1, s2]
  simp only [Option.bind_some]
  unfold twoS
  cases h1 : soundV k n f t
  · rw [if_neg (by simp), j0t true rfl]; rfl
  · rw [if_pos rfl]
    cases h2 : soundV k' n' f' t'
    · rw [if_neg (by simp), j0t true rfl]; rfl
    · rw [if_pos rfl]
      by_cases c10 : code < 10
      · rw [if_pos c10, j0t true rfl]
        have e : decide (10 ≤ code) = false := by simp; omega
        rw [e]; rfl
      · rw [if_neg c10]
        have e10 : decide (10 ≤ code) = true := by simp; omega
        by_cases c24 : code > 24
        · rw [j0t _ (by simpa using c24)]
          have e : decide (code ≤ 24) = false := by simp; omega
          rw [e10, e]; rfl
        · have e24 : decide (code ≤ 24) = true := by simp; omega
          rw [e10, e24]
          simp only [Bool.and_self, Bool.not_true, Bool.false_eq_true, if_false]
          rw [show decide (code > 24) = false by simp; omega]
          have j1t : ∀ b : Bool, b = true → freshetref01_Two.j1 (m + 4) code b k n f t k' n' f' t' = some (tupD (logicS code k n f t k' n' f' t')) := fun b hb => by
            subst hb
            simp only [freshetref01_Two.j1, if_true]
            rw [show m + 3 = (m + 1) + 2 by omega, logic_eq]; rfl
          simp only [freshetref01_Two.j0]
          rw [if_neg (by simp)]
          by_cases c22 : code = 22
          · subst c22; rw [if_pos rfl, j1t true rfl]; rfl
          · rw [if_neg c22]
            by_cases c23 : code = 23
            · subst c23; rw [j1t (23 == 23) rfl]; rfl
            · have e22 : (code == 22) = false := by simpa using c22
              have e23 : (code == 23) = false := by simpa using c23
              rw [e22, e23]
              have hs : t.size + t'.size ≤ 9223372036854775807 := by have := sound_sz h1; have := sound_sz h2; omega
              have h := j2_eq m code k n f t k' n' f' t' hn hn' hf hf' (by omega) (by omega) c22 c23 hs
              simp only [freshetref01_Two.j1]
              rw [if_neg (by simp)]
              simp only [Bool.or_self, Bool.false_eq_true, if_false]
              have fin : ∀ b : Bool, b = !(k == 0 || k' == 0 || k == k') → freshetref01_Two.j2 (m + 3) code b k n f t k' n' f' t' = some (tupD (if !(k == 0 || k' == 0 || k == k') then .error 1 else if code == 24 then (if k == 0 then .ok ⟨k', n', f', t'⟩ else .ok ⟨k, n, f, t⟩)
                  else if !(fitsB code k && fitsB code k') then .error 1 else if k == 0 || k' == 0 then .ok ⟨0, 0, 0, ⟨#[]⟩⟩
                  else if decide (16 ≤ code) then .ok ⟨1, b2i (comparedB code (cmpV k n f t k' n' f' t')), 0, ⟨#[]⟩⟩
                  else if code == 15 then textS (t ++ t') else if k == 3 then .ok ⟨3, 0, floatS code f.toNat f'.toNat, ⟨#[]⟩⟩ else addI (intsS code n n'))) := fun b hb => by
                rw [h, hb]; rfl
              by_cases k0 : k = 0
              · rw [if_pos k0, fin false (by subst k0; rfl)]
              · rw [if_neg k0]
                have e : (k == 0) = false := by simpa using k0
                by_cases k0' : k' = 0
                · rw [if_pos k0', fin false (by subst k0'; simp)]
                · rw [if_neg k0', fin _ (by have e' : (k' == 0) = false := by simpa using k0'
                                            rw [e, e']; rfl)]

theorem rOne_c (code kind k n f : Int) (t : ByteArray) (w : World) (hn : I64 n) (hf : U64 f) :
    Calls Tryz.prog 6 #[.int .i64 code, .int .i64 kind, .agg #[.int .i64 k, .int .i64 n, .int .u64 f, .string t]] w (OutT (oneS code kind k n f t) w) :=
  PRS.freshetref01_One.calls 1 code kind k n f t _ _ _ _ _ w (rOne_eq 0 code kind k n f t hn hf)
theorem rTwo_c (code k n f : Int) (t : ByteArray) (k' n' f' : Int) (t' : ByteArray) (w : World) (hn : I64 n) (hn' : I64 n') (hf : U64 f) (hf' : U64 f') :
    Calls Tryz.prog 8 #[.int .i64 code, .agg #[.int .i64 k, .int .i64 n, .int .u64 f, .string t], .agg #[.int .i64 k', .int .i64 n', .int .u64 f', .string t']] w (OutT (twoS code k n f t k' n' f' t') w) :=
  PRS.freshetref01_Two.calls 5 code k n f t k' n' f' t' _ _ _ _ _ w (rTwo_eq 0 code k n f t k' n' f' t' hn hn' hf hf')

end Go.Proofs.YtjnkkjeneomckaaGreatDoor

namespace Go.Proofs.YtjnkkjeneomckaaGreatDoor
set_option linter.unusedVariables false
set_option linter.unusedSimpArgs false
open Go.RowKit

def VIn (w : World) (b : Nat) (k n f : Int) (t : ByteArray) : Prop :=
  w.cell? ⟨b, 0, none⟩ = some (.int .i64 k) ∧ w.cell? ⟨b, 1, none⟩ = some (.int .i64 n) ∧ w.cell? ⟨b, 2, none⟩ = some (.int .u64 f) ∧ w.cell? ⟨b, 3, none⟩ = some (.string t)
def Free4 (w : World) (b : Nat) : Prop := w.frozen? ⟨b, 0, none⟩ = false ∧ w.frozen? ⟨b, 1, none⟩ = false ∧ w.frozen? ⟨b, 2, none⟩ = false ∧ w.frozen? ⟨b, 3, none⟩ = false
def VAny (w : World) (b : Nat) : Prop := (∃ x : V, VIn w b x.k x.n x.f x.t) ∧ Free4 w b
def C2 (w : World) (b : Nat) (x y : Int) : Prop := w.cell? ⟨b, 0, none⟩ = some (.int .i64 x) ∧ w.cell? ⟨b, 1, none⟩ = some (.int .i64 y)

def OutV5 (x : V × Int) (w : World) (e : Ending) (w' : World) : Prop := e = .returned (.tuple #[.agg #[.int .i64 x.1.k, .int .i64 x.1.n, .int .u64 x.1.f, .string x.1.t], .int .i64 x.2]) ∧ Below w.heap.size w w'

set_option maxRecDepth 100000 in
set_option maxHeartbeats 8000000 in
theorem steps_w (c0 q k n f : Int) (t : ByteArray) (k' n' f' : Int) (t' : ByteArray) (X1 X2 : Int → V × Int) (w : World) (ht : Tab w)
    (p1 : ∀ (c : Int) w, Tab w → Calls Tryz.prog 5 #[.int .i64 c, .int .i64 q, .agg #[.int .i64 k, .int .i64 n, .int .u64 f, .string t]] w (OutV5 (X1 c) w))
    (p2 : ∀ (c : Int) w, Calls Tryz.prog 6 #[.int .i64 c, .int .i64 q, .agg #[.int .i64 k, .int .i64 n, .int .u64 f, .string t]] w (OutV5 (X1 c) w))
    (p3 : ∀ (c : Int) w, Calls Tryz.prog 7 #[.int .i64 c, .agg #[.int .i64 k, .int .i64 n, .int .u64 f, .string t], .agg #[.int .i64 k', .int .i64 n', .int .u64 f', .string t']] w (OutV5 (X2 c) w))
    (p4 : ∀ (c : Int) w, Calls Tryz.prog 8 #[.int .i64 c, .agg #[.int .i64 k, .int .i64 n, .int .u64 f, .string t], .agg #[.int .i64 k', .int .i64 n', .int .u64 f', .string t']] w (OutV5 (X2 c) w)) :
    Calls Tryz.prog 3 #[.agg #[.int .i64 c0, .int .i64 q], .agg #[.int .i64 k, .int .i64 n, .int .u64 f, .string t], .agg #[.int .i64 k', .int .i64 n', .int .u64 f', .string t']] w fun e w' => e = .returned (.bool true) ∧ Below w.heap.size w w' := by
  have P1 := Lib.hid p1; have P2 := Lib.hid p2; have P3 := Lib.hid p3; have P4 := Lib.hid p4; clear p1 p2 p3 p4
  have hr := run_eqV
  have hr2 := run_neV
  have hq1 : ∀ a b c d, eqV a b c d a b c d = true := fun a b c d => by simp [eqV]
  go_enter Tryz.func3, Tryz.ntmps3
  go_wp2_with (first | (go_at_call 4; (fail_if_success (have := w1)); ((with_reducible refine (awake_c _ (ht.below (by repeat (first | (with_reducible exact Below.refl _ _) | (with_reducible refine below_al ?_ _) | (with_reducible refine below_drewN ?_ _) | (with_reducible refine Below.drew ?_) | (with_reducible refine below_via (by assumption) ?_) | (with_reducible refine below_sc ?_ ?_ _; · (first | (simp; done) | (simp; omega) | omega)))))).mono ?_); rintro e w1 ⟨rfl, hb1⟩; (try (replace hb1 := below_undrew hb1)); (try (replace hb1 := below_undrewN hb1)); obtain ⟨hc1, hf1⟩ := bcell hb1; (try (have hz0_1 : w.heap.size < w1.heap.size := (by have := hb1.size; (try simp at this); omega))); (try (have hz1_1 : w.heap.size + 1 < w1.heap.size := (by have := hb1.size; (try simp at this); omega))); (try (have hz2_1 : w.heap.size + 2 < w1.heap.size := (by have := hb1.size; (try simp at this); omega))))) | (go_at_call 5; (fail_if_success (have := w1)); ((with_reducible refine (P1.out _ _ (ht.below (by repeat (first | (with_reducible exact Below.refl _ _) | (with_reducible refine below_al ?_ _) | (with_reducible refine below_drewN ?_ _) | (with_reducible refine Below.drew ?_) | (with_reducible refine below_via (by assumption) ?_) | (with_reducible refine below_sc ?_ ?_ _; · (first | (simp; done) | (simp; omega) | omega)))))).mono ?_); rintro e w1 ⟨rfl, hb1⟩; (try (replace hb1 := below_undrew hb1)); (try (replace hb1 := below_undrewN hb1)); obtain ⟨hc1, hf1⟩ := bcell hb1; (try (have hz0_1 : w.heap.size < w1.heap.size := (by have := hb1.size; (try simp at this); omega))); (try (have hz1_1 : w.heap.size + 1 < w1.heap.size := (by have := hb1.size; (try simp at this); omega))); (try (have hz2_1 : w.heap.size + 2 < w1.heap.size := (by have := hb1.size; (try simp at this); omega))))) | (go_at_call 6; (fail_if_success (have := w1)); ((with_reducible refine (P2.out _ _).mono ?_); rintro e w1 ⟨rfl, hb1⟩; (try (replace hb1 := below_undrew hb1)); (try (replace hb1 := below_undrewN hb1)); obtain ⟨hc1, hf1⟩ := bcell hb1; (try (have hz0_1 : w.heap.size < w1.heap.size := (by have := hb1.size; (try simp at this); omega))); (try (have hz1_1 : w.heap.size + 1 < w1.heap.size := (by have := hb1.size; (try simp at this); omega))); (try (have hz2_1 : w.heap.size + 2 < w1.heap.size := (by have := hb1.size; (try simp at this); omega))))) | (go_at_call 4; (fail_if_success (have := w2)); ((with_reducible refine (awake_c _ (ht.below (by repeat (first | (with_reducible exact Below.refl _ _) | (with_reducible refine below_al ?_ _) | (with_reducible refine below_drewN ?_ _) | (with_reducible refine Below.drew ?_) | (with_reducible refine below_via (by assumption) ?_) | (with_reducible refine below_sc ?_ ?_ _; · (first | (simp; done) | (simp; omega) | omega)))))).mono ?_); rintro e w2 ⟨rfl, hb2⟩; (try (replace hb2 := below_undrew hb2)); (try (replace hb2 := below_undrewN hb2)); obtain ⟨hc2, hf2⟩ := bcell hb2; (try (have hz0_2 : w.heap.size < w2.heap.size := (by have := hb2.size; (try simp at this); omega))); (try (have hz1_2 : w.heap.size + 1 < w2.heap.size := (by have := hb2.size; (try simp at this); omega))); (try (have hz2_2 : w.heap.size + 2 < w2.heap.size := (by have := hb2.size; (try simp at this); omega))); (try (have hz_1_2 : w1.heap.size < w2.heap.size := (by have := hb2.size; (try simp at this); omega))))) | (go_at_call 5; (fail_if_success (have := w2)); ((with_reducible refine (P1.out _ _ (ht.below (by repeat (first | (with_reducible exact Below.refl _ _) | (with_reducible refine below_al ?_ _) | (with_reducible refine below_drewN ?_ _) | (with_reducible refine Below.drew ?_) | (with_reducible refine below_via (by assumption) ?_) | (with_reducible refine below_sc ?_ ?_ _; · (first | (simp; done) | (simp; omega) | omega)))))).mono ?_); rintro e w2 ⟨rfl, hb2⟩; (try (replace hb2 := below_undrew hb2)); (try (replace hb2 := below_undrewN hb2)); obtain ⟨hc2, hf2⟩ := bcell hb2; (try (have hz0_2 : w.heap.size < w2.heap.size := (by have := hb2.size; (try simp at this); omega))); (try (have hz1_2 : w.heap.size + 1 < w2.heap.size := (by have := hb2.size; (try simp at this); omega))); (try (have hz2_2 : w.heap.size + 2 < w2.heap.size := (by have := hb2.size; (try simp at this); omega))); (try (have hz_1_2 : w1.heap.size < w2.heap.size := (by have := hb2.size; (try simp at this); omega))))) | (go_at_call 6; (fail_if_success (have := w2)); ((with_reducible refine (P2.out _ _).mono ?_); rintro e w2 ⟨rfl, hb2⟩; (try (replace hb2 := below_undrew hb2)); (try (replace hb2 := below_undrewN hb2)); obtain ⟨hc2, hf2⟩ := bcell hb2; (try (have hz0_2 : w.heap.size < w2.heap.size := (by have := hb2.size; (try simp at this); omega))); (try (have hz1_2 : w.heap.size + 1 < w2.heap.size := (by have := hb2.size; (try simp at this); omega))); (try (have hz2_2 : w.heap.size + 2 < w2.heap.size := (by have := hb2.size; (try simp at this); omega))); (try (have hz_1_2 : w1.heap.size < w2.heap.size := (by have := hb2.size; (try simp at this); omega))))) | (go_at_call 4; (fail_if_success (have := w3)); ((with_reducible refine (awake_c _ (ht.below (by repeat (first | (with_reducible exact Below.refl _ _) | (with_reducible refine below_al ?_ _) | (with_reducible refine below_drewN ?_ _) | (with_reducible refine Below.drew ?_) | (with_reducible refine below_via (by assumption) ?_) | (with_reducible refine below_sc ?_ ?_ _; · (first | (simp; done) | (simp; omega) | omega)))))).mono ?_); rintro e w3 ⟨rfl, hb3⟩; (try (replace hb3 := below_undrew hb3)); (try (replace hb3 := below_undrewN hb3)); obtain ⟨hc3, hf3⟩ := bcell hb3; (try (have hz0_3 : w.heap.size < w3.heap.size := (by have := hb3.size; (try simp at this); omega))); (try (have hz1_3 : w.heap.size + 1 < w3.heap.size := (by have := hb3.size; (try simp at this); omega))); (try (have hz2_3 : w.heap.size + 2 < w3.heap.size := (by have := hb3.size; (try simp at this); omega))); (try (have hz_1_3 : w1.heap.size < w3.heap.size := (by have := hb3.size; (try simp at this); omega))); (try (have hz_2_3 : w2.heap.size < w3.heap.size := (by have := hb3.size; (try simp at this); omega))))) | (go_at_call 5; (fail_if_success (have := w3)); ((with_reducible refine (P1.out _ _ (ht.below (by repeat (first | (with_reducible exact Below.refl _ _) | (with_reducible refine below_al ?_ _) | (with_reducible refine below_drewN ?_ _) | (with_reducible refine Below.drew ?_) | (with_reducible refine below_via (by assumption) ?_) | (with_reducible refine below_sc ?_ ?_ _; · (first | (simp; done) | (simp; omega) | omega)))))).mono ?_); rintro e w3 ⟨rfl, hb3⟩; (try (replace hb3 := below_undrew hb3)); (try (replace hb3 := below_undrewN hb3)); obtain ⟨hc3, hf3⟩ := bcell hb3; (try (have hz0_3 : w.heap.size < w3.heap.size := (by have := hb3.size; (try simp at this); omega))); (try (have hz1_3 : w.heap.size + 1 < w3.heap.size := (by have := hb3.size; (try simp at this); omega))); (try (have hz2_3 : w.heap.size + 2 < w3.heap.size := (by have := hb3.size; (try simp at this); omega))); (try (have hz_1_3 : w1.heap.size < w3.heap.size := (by have := hb3.size; (try simp at this); omega))); (try (have hz_2_3 : w2.heap.size < w3.heap.size := (by have := hb3.size; (try simp at this); omega))))) | (go_at_call 6; (fail_if_success (have := w3)); ((with_reducible refine (P2.out _ _).mono ?_); rintro e w3 ⟨rfl, hb3⟩; (try (replace hb3 := below_undrew hb3)); (try (replace hb3 := below_undrewN hb3)); obtain ⟨hc3, hf3⟩ := bcell hb3; (try (have hz0_3 : w.heap.size < w3.heap.size := (by have := hb3.size; (try simp at this); omega))); (try (have hz1_3 : w.heap.size + 1 < w3.heap.size := (by have := hb3.size; (try simp at this); omega))); (try (have hz2_3 : w.heap.size + 2 < w3.heap.size := (by have := hb3.size; (try simp at this); omega))); (try (have hz_1_3 : w1.heap.size < w3.heap.size := (by have := hb3.size; (try simp at this); omega))); (try (have hz_2_3 : w2.heap.size < w3.heap.size := (by have := hb3.size; (try simp at this); omega))))))
  have HB0 := Lib.hid (show Below w.heap.size w (w3.alloc (.cells #[.int .i64 (X1 c0).1.k, .int .i64 (X1 c0).1.n, .int .u64 (X1 c0).1.f, .string (X1 c0).1.t] 25)) from (by repeat (first | (with_reducible exact Below.refl _ _) | (with_reducible refine below_al ?_ _) | (with_reducible refine below_drewN ?_ _) | (with_reducible refine Below.drew ?_) | (with_reducible refine below_via (by assumption) ?_) | (with_reducible refine below_sc ?_ ?_ _; · (first | (simp; done) | (simp; omega) | omega)))))
  go_loopw [8, 10, 11] (fun _ _ i wr => ∃ c : Nat, c ≤ 30 ∧ i = .int .i64 c ∧ Hid (Below w.heap.size w wr) ∧ w2.heap.size < wr.heap.size ∧ w3.heap.size < wr.heap.size ∧ C2 wr w.heap.size c0 q ∧ VIn wr (w.heap.size + 1) k n f t ∧ VIn wr (w.heap.size + 1 + 1) k' n' f' t' ∧ VAny wr w2.heap.size ∧ VAny wr w3.heap.size) (fun _ _ i _ => 30 - (intOf i).toNat)
  case atStart =>
    refine ⟨0, by omega, rfl, HB0, by simp; omega, by simp, ⟨by go_simp, by go_simp⟩, ⟨by go_simp, by go_simp, by go_simp, by go_simp⟩, ⟨by go_simp, by go_simp, by go_simp, by go_simp⟩, ⟨⟨(X1 c0).1, by go_simp, by go_simp, by go_simp, by go_simp⟩, by go_simp, by go_simp, by go_simp, by go_simp⟩, ⟨⟨(X1 c0).1, by go_simp, by go_simp, by go_simp, by go_simp⟩, by go_simp, by go_simp, by go_simp, by go_simp⟩⟩
  case round =>
    obtain ⟨c, hc, rfl, HB, z2, z3, ⟨a0, a1⟩, ⟨x0, x1, x2, x3⟩, ⟨y0, y1, y2, y3⟩, ⟨⟨v, g0, g1, g2, g3⟩, m0, m1, m2, m3⟩, ⟨⟨u, d0, d1, d2, d3⟩, l0, l1, l2, l3⟩⟩ := hrel
    clear hb1 hc1 hf1 hb2 hc2 hf2 hb3 hc3 hf3 HB0
    have q0 : w.heap.size + 1 + 1 < wr.heap.size := by omega
    have q1 : w.heap.size + 1 < wr.heap.size := by omega
    have q2 : w.heap.size < wr.heap.size := by omega
    have ne0 : ¬ w2.heap.size = w.heap.size := by omega
    have ne1 : ¬ w.heap.size = w2.heap.size := by omega
    have ne2 : ¬ w2.heap.size = w.heap.size + 1 := by omega
    have ne3 : ¬ w.heap.size + 1 = w2.heap.size := by omega
    have ne4 : ¬ w2.heap.size = w.heap.size + 1 + 1 := by omega
    have ne5 : ¬ w.heap.size + 1 + 1 = w2.heap.size := by omega
    have ne6 : ¬ w3.heap.size = w.heap.size := by omega
    have ne7 : ¬ w.heap.size = w3.heap.size := by omega
    have ne8 : ¬ w3.heap.size = w.heap.size + 1 := by omega
    have ne9 : ¬ w.heap.size + 1 = w3.heap.size := by omega
    have ne10 : ¬ w3.heap.size = w.heap.size + 1 + 1 := by omega
    have ne11 : ¬ w.heap.size + 1 + 1 = w3.heap.size := by omega
    have ne12 : ¬ w2.heap.size = w3.heap.size := by omega
    have ne13 : ¬ w3.heap.size = w2.heap.size := by omega
    by_cases hlt : c < 30
    · go_wp2_with (first | (go_at_call 7; (fail_if_success (have := w1)); ((with_reducible refine (P3.out _ _).mono ?_); rintro e w1 ⟨rfl, hb1⟩; (try (replace hb1 := below_undrew hb1)); (try (replace hb1 := below_undrewN hb1)); obtain ⟨hc1, hf1⟩ := bcell hb1; (try (have hz0_1 : w.heap.size < w1.heap.size := (by have := hb1.size; (try simp at this); omega))); (try (have hz1_1 : w.heap.size + 1 < w1.heap.size := (by have := hb1.size; (try simp at this); omega))); (try (have hz2_1 : w.heap.size + 2 < w1.heap.size := (by have := hb1.size; (try simp at this); omega))); have p1_0 : w1.cell? ⟨w2.heap.size, 0, none⟩ = some (.int .i64 v.k) := (by go_simp); have p1_1 : w1.cell? ⟨w2.heap.size, 1, none⟩ = some (.int .i64 v.n) := (by go_simp); have p1_2 : w1.cell? ⟨w2.heap.size, 2, none⟩ = some (.int .u64 v.f) := (by go_simp); have p1_3 : w1.cell? ⟨w2.heap.size, 3, none⟩ = some (.string v.t) := (by go_simp); have q1_0 : w1.cell? ⟨w3.heap.size, 0, none⟩ = some (.int .i64 u.k) := (by go_simp); have q1_1 : w1.cell? ⟨w3.heap.size, 1, none⟩ = some (.int .i64 u.n) := (by go_simp); have q1_2 : w1.cell? ⟨w3.heap.size, 2, none⟩ = some (.int .u64 u.f) := (by go_simp); have q1_3 : w1.cell? ⟨w3.heap.size, 3, none⟩ = some (.string u.t) := (by go_simp))) | (go_at_call 8; (fail_if_success (have := w1)); ((with_reducible refine (P4.out _ _).mono ?_); rintro e w1 ⟨rfl, hb1⟩; (try (replace hb1 := below_undrew hb1)); (try (replace hb1 := below_undrewN hb1)); obtain ⟨hc1, hf1⟩ := bcell hb1; (try (have hz0_1 : w.heap.size < w1.heap.size := (by have := hb1.size; (try simp at this); omega))); (try (have hz1_1 : w.heap.size + 1 < w1.heap.size := (by have := hb1.size; (try simp at this); omega))); (try (have hz2_1 : w.heap.size + 2 < w1.heap.size := (by have := hb1.size; (try simp at this); omega))); have m1_0 : w1.frozen? ⟨w2.heap.size, 0, none⟩ = false := (by go_simp); have l1_0 : w1.frozen? ⟨w3.heap.size, 0, none⟩ = false := (by go_simp); have m1_1 : w1.frozen? ⟨w2.heap.size, 1, none⟩ = false := (by go_simp); have l1_1 : w1.frozen? ⟨w3.heap.size, 1, none⟩ = false := (by go_simp); have m1_2 : w1.frozen? ⟨w2.heap.size, 2, none⟩ = false := (by go_simp); have l1_2 : w1.frozen? ⟨w3.heap.size, 2, none⟩ = false := (by go_simp); have m1_3 : w1.frozen? ⟨w2.heap.size, 3, none⟩ = false := (by go_simp); have l1_3 : w1.frozen? ⟨w3.heap.size, 3, none⟩ = false := (by go_simp); have a1_0 : w1.cell? ⟨w.heap.size, 0, none⟩ = some (.int .i64 c0) := (by go_simp); have a1_1 : w1.cell? ⟨w.heap.size, 1, none⟩ = some (.int .i64 q) := (by go_simp); have x1_0 : w1.cell? ⟨w.heap.size + 1, 0, none⟩ = some (.int .i64 k) := (by go_simp); have x1_1 : w1.cell? ⟨w.heap.size + 1, 1, none⟩ = some (.int .i64 n) := (by go_simp); have x1_2 : w1.cell? ⟨w.heap.size + 1, 2, none⟩ = some (.int .u64 f) := (by go_simp); have x1_3 : w1.cell? ⟨w.heap.size + 1, 3, none⟩ = some (.string t) := (by go_simp); have y1_0 : w1.cell? ⟨w.heap.size + 1 + 1, 0, none⟩ = some (.int .i64 k') := (by go_simp); have y1_1 : w1.cell? ⟨w.heap.size + 1 + 1, 1, none⟩ = some (.int .i64 n') := (by go_simp); have y1_2 : w1.cell? ⟨w.heap.size + 1 + 1, 2, none⟩ = some (.int .u64 f') := (by go_simp); have y1_3 : w1.cell? ⟨w.heap.size + 1 + 1, 3, none⟩ = some (.string t') := (by go_simp); have p1_0 : w1.cell? ⟨w2.heap.size, 0, none⟩ = some (.int .i64 (X2 (c : Int)).1.k) := (by go_simp); have p1_1 : w1.cell? ⟨w2.heap.size, 1, none⟩ = some (.int .i64 (X2 (c : Int)).1.n) := (by go_simp); have p1_2 : w1.cell? ⟨w2.heap.size, 2, none⟩ = some (.int .u64 (X2 (c : Int)).1.f) := (by go_simp); have p1_3 : w1.cell? ⟨w2.heap.size, 3, none⟩ = some (.string (X2 (c : Int)).1.t) := (by go_simp); have q1_0 : w1.cell? ⟨w3.heap.size, 0, none⟩ = some (.int .i64 u.k) := (by go_simp); have q1_1 : w1.cell? ⟨w3.heap.size, 1, none⟩ = some (.int .i64 u.n) := (by go_simp); have q1_2 : w1.cell? ⟨w3.heap.size, 2, none⟩ = some (.int .u64 u.f) := (by go_simp); have q1_3 : w1.cell? ⟨w3.heap.size, 3, none⟩ = some (.string u.t) := (by go_simp); clear hc1 hf1)) | (go_at_call 5; (fail_if_success (have := w1)); ((with_reducible refine (P1.out _ _ (ht.below (by repeat (first | (with_reducible exact HB.out) | (with_reducible exact Below.refl _ _) | (with_reducible refine below_al ?_ _) | (with_reducible refine below_drewN ?_ _) | (with_reducible refine Below.drew ?_) | (with_reducible refine below_via (by assumption) ?_) | (with_reducible refine below_sc ?_ ?_ _; · (first | (simp; done) | (simp; omega) | omega)))))).mono ?_); rintro e w1 ⟨rfl, hb1⟩; (try (replace hb1 := below_undrew hb1)); (try (replace hb1 := below_undrewN hb1)); obtain ⟨hc1, hf1⟩ := bcell hb1; (try (have hz0_1 : w.heap.size < w1.heap.size := (by have := hb1.size; (try simp at this); omega))); (try (have hz1_1 : w.heap.size + 1 < w1.heap.size := (by have := hb1.size; (try simp at this); omega))); (try (have hz2_1 : w.heap.size + 2 < w1.heap.size := (by have := hb1.size; (try simp at this); omega))); have m1_0 : w1.frozen? ⟨w2.heap.size, 0, none⟩ = false := (by go_simp); have l1_0 : w1.frozen? ⟨w3.heap.size, 0, none⟩ = false := (by go_simp); have m1_1 : w1.frozen? ⟨w2.heap.size, 1, none⟩ = false := (by go_simp); have l1_1 : w1.frozen? ⟨w3.heap.size, 1, none⟩ = false := (by go_simp); have m1_2 : w1.frozen? ⟨w2.heap.size, 2, none⟩ = false := (by go_simp); have l1_2 : w1.frozen? ⟨w3.heap.size, 2, none⟩ = false := (by go_simp); have m1_3 : w1.frozen? ⟨w2.heap.size, 3, none⟩ = false := (by go_simp); have l1_3 : w1.frozen? ⟨w3.heap.size, 3, none⟩ = false := (by go_simp); have a1_0 : w1.cell? ⟨w.heap.size, 0, none⟩ = some (.int .i64 c0) := (by go_simp); have a1_1 : w1.cell? ⟨w.heap.size, 1, none⟩ = some (.int .i64 q) := (by go_simp); have x1_0 : w1.cell? ⟨w.heap.size + 1, 0, none⟩ = some (.int .i64 k) := (by go_simp); have x1_1 : w1.cell? ⟨w.heap.size + 1, 1, none⟩ = some (.int .i64 n) := (by go_simp); have x1_2 : w1.cell? ⟨w.heap.size + 1, 2, none⟩ = some (.int .u64 f) := (by go_simp); have x1_3 : w1.cell? ⟨w.heap.size + 1, 3, none⟩ = some (.string t) := (by go_simp); have y1_0 : w1.cell? ⟨w.heap.size + 1 + 1, 0, none⟩ = some (.int .i64 k') := (by go_simp); have y1_1 : w1.cell? ⟨w.heap.size + 1 + 1, 1, none⟩ = some (.int .i64 n') := (by go_simp); have y1_2 : w1.cell? ⟨w.heap.size + 1 + 1, 2, none⟩ = some (.int .u64 f') := (by go_simp); have y1_3 : w1.cell? ⟨w.heap.size + 1 + 1, 3, none⟩ = some (.string t') := (by go_simp); have p1_0 : w1.cell? ⟨w2.heap.size, 0, none⟩ = some (.int .i64 (X2 (c : Int)).1.k) := (by go_simp); have p1_1 : w1.cell? ⟨w2.heap.size, 1, none⟩ = some (.int .i64 (X2 (c : Int)).1.n) := (by go_simp); have p1_2 : w1.cell? ⟨w2.heap.size, 2, none⟩ = some (.int .u64 (X2 (c : Int)).1.f) := (by go_simp); have p1_3 : w1.cell? ⟨w2.heap.size, 3, none⟩ = some (.string (X2 (c : Int)).1.t) := (by go_simp); have q1_0 : w1.cell? ⟨w3.heap.size, 0, none⟩ = some (.int .i64 (X2 (c : Int)).1.k) := (by go_simp); have q1_1 : w1.cell? ⟨w3.heap.size, 1, none⟩ = some (.int .i64 (X2 (c : Int)).1.n) := (by go_simp); have q1_2 : w1.cell? ⟨w3.heap.size, 2, none⟩ = some (.int .u64 (X2 (c : Int)).1.f) := (by go_simp); have q1_3 : w1.cell? ⟨w3.heap.size, 3, none⟩ = some (.string (X2 (c : Int)).1.t) := (by go_simp); clear hc1 hf1)) | (go_at_call 6; (fail_if_success (have := w1)); ((with_reducible refine (P2.out _ _).mono ?_); rintro e w1 ⟨rfl, hb1⟩; (try (replace hb1 := below_undrew hb1)); (try (replace hb1 := below_undrewN hb1)); obtain ⟨hc1, hf1⟩ := bcell hb1; (try (have hz0_1 : w.heap.size < w1.heap.size := (by have := hb1.size; (try simp at this); omega))); (try (have hz1_1 : w.heap.size + 1 < w1.heap.size := (by have := hb1.size; (try simp at this); omega))); (try (have hz2_1 : w.heap.size + 2 < w1.heap.size := (by have := hb1.size; (try simp at this); omega))); have p1_0 : w1.cell? ⟨w2.heap.size, 0, none⟩ = some (.int .i64 (X1 (c : Int)).1.k) := (by go_simp); have p1_1 : w1.cell? ⟨w2.heap.size, 1, none⟩ = some (.int .i64 (X1 (c : Int)).1.n) := (by go_simp); have p1_2 : w1.cell? ⟨w2.heap.size, 2, none⟩ = some (.int .u64 (X1 (c : Int)).1.f) := (by go_simp); have p1_3 : w1.cell? ⟨w2.heap.size, 3, none⟩ = some (.string (X1 (c : Int)).1.t) := (by go_simp); have q1_0 : w1.cell? ⟨w3.heap.size, 0, none⟩ = some (.int .i64 (X2 (c : Int)).1.k) := (by go_simp); have q1_1 : w1.cell? ⟨w3.heap.size, 1, none⟩ = some (.int .i64 (X2 (c : Int)).1.n) := (by go_simp); have q1_2 : w1.cell? ⟨w3.heap.size, 2, none⟩ = some (.int .u64 (X2 (c : Int)).1.f) := (by go_simp); have q1_3 : w1.cell? ⟨w3.heap.size, 3, none⟩ = some (.string (X2 (c : Int)).1.t) := (by go_simp))) | (go_at_call 7; (fail_if_success (have := w2)); ((with_reducible refine (P3.out _ _).mono ?_); rintro e w2 ⟨rfl, hb2⟩; (try (replace hb2 := below_undrew hb2)); (try (replace hb2 := below_undrewN hb2)); obtain ⟨hc2, hf2⟩ := bcell hb2; (try (have hz0_2 : w.heap.size < w2.heap.size := (by have := hb2.size; (try simp at this); omega))); (try (have hz1_2 : w.heap.size + 1 < w2.heap.size := (by have := hb2.size; (try simp at this); omega))); (try (have hz2_2 : w.heap.size + 2 < w2.heap.size := (by have := hb2.size; (try simp at this); omega))); (try (have hz_1_2 : w1.heap.size < w2.heap.size := (by have := hb2.size; (try simp at this); omega))); have p2_0 : w2.cell? ⟨w2.heap.size, 0, none⟩ = some (.int .i64 v.k) := (by go_simp); have p2_1 : w2.cell? ⟨w2.heap.size, 1, none⟩ = some (.int .i64 v.n) := (by go_simp); have p2_2 : w2.cell? ⟨w2.heap.size, 2, none⟩ = some (.int .u64 v.f) := (by go_simp); have p2_3 : w2.cell? ⟨w2.heap.size, 3, none⟩ = some (.string v.t) := (by go_simp); have q2_0 : w2.cell? ⟨w3.heap.size, 0, none⟩ = some (.int .i64 u.k) := (by go_simp); have q2_1 : w2.cell? ⟨w3.heap.size, 1, none⟩ = some (.int .i64 u.n) := (by go_simp); have q2_2 : w2.cell? ⟨w3.heap.size, 2, none⟩ = some (.int .u64 u.f) := (by go_simp); have q2_3 : w2.cell? ⟨w3.heap.size, 3, none⟩ = some (.string u.t) := (by go_simp))) | (go_at_call 8; (fail_if_success (have := w2)); ((with_reducible refine (P4.out _ _).mono ?_); rintro e w2 ⟨rfl, hb2⟩; (try (replace hb2 := below_undrew hb2)); (try (replace hb2 := below_undrewN hb2)); obtain ⟨hc2, hf2⟩ := bcell hb2; (try (have hz0_2 : w.heap.size < w2.heap.size := (by have := hb2.size; (try simp at this); omega))); (try (have hz1_2 : w.heap.size + 1 < w2.heap.size := (by have := hb2.size; (try simp at this); omega))); (try (have hz2_2 : w.heap.size + 2 < w2.heap.size := (by have := hb2.size; (try simp at this); omega))); (try (have hz_1_2 : w1.heap.size < w2.heap.size := (by have := hb2.size; (try simp at this); omega))); have m2_0 : w2.frozen? ⟨w2.heap.size, 0, none⟩ = false := (by go_simp); have l2_0 : w2.frozen? ⟨w3.heap.size, 0, none⟩ = false := (by go_simp); have m2_1 : w2.frozen? ⟨w2.heap.size, 1, none⟩ = false := (by go_simp); have l2_1 : w2.frozen? ⟨w3.heap.size, 1, none⟩ = false := (by go_simp); have m2_2 : w2.frozen? ⟨w2.heap.size, 2, none⟩ = false := (by go_simp); have l2_2 : w2.frozen? ⟨w3.heap.size, 2, none⟩ = false := (by go_simp); have m2_3 : w2.frozen? ⟨w2.heap.size, 3, none⟩ = false := (by go_simp); have l2_3 : w2.frozen? ⟨w3.heap.size, 3, none⟩ = false := (by go_simp); have a2_0 : w2.cell? ⟨w.heap.size, 0, none⟩ = some (.int .i64 c0) := (by go_simp); have a2_1 : w2.cell? ⟨w.heap.size, 1, none⟩ = some (.int .i64 q) := (by go_simp); have x2_0 : w2.cell? ⟨w.heap.size + 1, 0, none⟩ = some (.int .i64 k) := (by go_simp); have x2_1 : w2.cell? ⟨w.heap.size + 1, 1, none⟩ = some (.int .i64 n) := (by go_simp); have x2_2 : w2.cell? ⟨w.heap.size + 1, 2, none⟩ = some (.int .u64 f) := (by go_simp); have x2_3 : w2.cell? ⟨w.heap.size + 1, 3, none⟩ = some (.string t) := (by go_simp); have y2_0 : w2.cell? ⟨w.heap.size + 1 + 1, 0, none⟩ = some (.int .i64 k') := (by go_simp); have y2_1 : w2.cell? ⟨w.heap.size + 1 + 1, 1, none⟩ = some (.int .i64 n') := (by go_simp); have y2_2 : w2.cell? ⟨w.heap.size + 1 + 1, 2, none⟩ = some (.int .u64 f') := (by go_simp); have y2_3 : w2.cell? ⟨w.heap.size + 1 + 1, 3, none⟩ = some (.string t') := (by go_simp); have p2_0 : w2.cell? ⟨w2.heap.size, 0, none⟩ = some (.int .i64 (X2 (c : Int)).1.k) := (by go_simp); have p2_1 : w2.cell? ⟨w2.heap.size, 1, none⟩ = some (.int .i64 (X2 (c : Int)).1.n) := (by go_simp); have p2_2 : w2.cell? ⟨w2.heap.size, 2, none⟩ = some (.int .u64 (X2 (c : Int)).1.f) := (by go_simp); have p2_3 : w2.cell? ⟨w2.heap.size, 3, none⟩ = some (.string (X2 (c : Int)).1.t) := (by go_simp); have q2_0 : w2.cell? ⟨w3.heap.size, 0, none⟩ = some (.int .i64 u.k) := (by go_simp); have q2_1 : w2.cell? ⟨w3.heap.size, 1, none⟩ = some (.int .i64 u.n) := (by go_simp); have q2_2 : w2.cell? ⟨w3.heap.size, 2, none⟩ = some (.int .u64 u.f) := (by go_simp); have q2_3 : w2.cell? ⟨w3.heap.size, 3, none⟩ = some (.string u.t) := (by go_simp); clear hc2 hf2)) | (go_at_call 5; (fail_if_success (have := w2)); ((with_reducible refine (P1.out _ _ (ht.below (by repeat (first | (with_reducible exact HB.out) | (with_reducible exact Below.refl _ _) | (with_reducible refine below_al ?_ _) | (with_reducible refine below_drewN ?_ _) | (with_reducible refine Below.drew ?_) | (with_reducible refine below_via (by assumption) ?_) | (with_reducible refine below_sc ?_ ?_ _; · (first | (simp; done) | (simp; omega) | omega)))))).mono ?_); rintro e w2 ⟨rfl, hb2⟩; (try (replace hb2 := below_undrew hb2)); (try (replace hb2 := below_undrewN hb2)); obtain ⟨hc2, hf2⟩ := bcell hb2; (try (have hz0_2 : w.heap.size < w2.heap.size := (by have := hb2.size; (try simp at this); omega))); (try (have hz1_2 : w.heap.size + 1 < w2.heap.size := (by have := hb2.size; (try simp at this); omega))); (try (have hz2_2 : w.heap.size + 2 < w2.heap.size := (by have := hb2.size; (try simp at this); omega))); (try (have hz_1_2 : w1.heap.size < w2.heap.size := (by have := hb2.size; (try simp at this); omega))); have m2_0 : w2.frozen? ⟨w2.heap.size, 0, none⟩ = false := (by go_simp); have l2_0 : w2.frozen? ⟨w3.heap.size, 0, none⟩ = false := (by go_simp); have m2_1 : w2.frozen? ⟨w2.heap.size, 1, none⟩ = false := (by go_simp); have l2_1 : w2.frozen? ⟨w3.heap.size, 1, none⟩ = false := (by go_simp); have m2_2 : w2.frozen? ⟨w2.heap.size, 2, none⟩ = false := (by go_simp); have l2_2 : w2.frozen? ⟨w3.heap.size, 2, none⟩ = false := (by go_simp); have m2_3 : w2.frozen? ⟨w2.heap.size, 3, none⟩ = false := (by go_simp); have l2_3 : w2.frozen? ⟨w3.heap.size, 3, none⟩ = false := (by go_simp); have a2_0 : w2.cell? ⟨w.heap.size, 0, none⟩ = some (.int .i64 c0) := (by go_simp); have a2_1 : w2.cell? ⟨w.heap.size, 1, none⟩ = some (.int .i64 q) := (by go_simp); have x2_0 : w2.cell? ⟨w.heap.size + 1, 0, none⟩ = some (.int .i64 k) := (by go_simp); have x2_1 : w2.cell? ⟨w.heap.size + 1, 1, none⟩ = some (.int .i64 n) := (by go_simp); have x2_2 : w2.cell? ⟨w.heap.size + 1, 2, none⟩ = some (.int .u64 f) := (by go_simp); have x2_3 : w2.cell? ⟨w.heap.size + 1, 3, none⟩ = some (.string t) := (by go_simp); have y2_0 : w2.cell? ⟨w.heap.size + 1 + 1, 0, none⟩ = some (.int .i64 k') := (by go_simp); have y2_1 : w2.cell? ⟨w.heap.size + 1 + 1, 1, none⟩ = some (.int .i64 n') := (by go_simp); have y2_2 : w2.cell? ⟨w.heap.size + 1 + 1, 2, none⟩ = some (.int .u64 f') := (by go_simp); have y2_3 : w2.cell? ⟨w.heap.size + 1 + 1, 3, none⟩ = some (.string t') := (by go_simp); have p2_0 : w2.cell? ⟨w2.heap.size, 0, none⟩ = some (.int .i64 (X2 (c : Int)).1.k) := (by go_simp); have p2_1 : w2.cell? ⟨w2.heap.size, 1, none⟩ = some (.int .i64 (X2 (c : Int)).1.n) := (by go_simp); have p2_2 : w2.cell? ⟨w2.heap.size, 2, none⟩ = some (.int .u64 (X2 (c : Int)).1.f) := (by go_simp); have p2_3 : w2.cell? ⟨w2.heap.size, 3, none⟩ = some (.string (X2 (c : Int)).1.t) := (by go_simp); have q2_0 : w2.cell? ⟨w3.heap.size, 0, none⟩ = some (.int .i64 (X2 (c : Int)).1.k) := (by go_simp); have q2_1 : w2.cell? ⟨w3.heap.size, 1, none⟩ = some (.int .i64 (X2 (c : Int)).1.n) := (by go_simp); have q2_2 : w2.cell? ⟨w3.heap.size, 2, none⟩ = some (.int .u64 (X2 (c : Int)).1.f) := (by go_simp); have q2_3 : w2.cell? ⟨w3.heap.size, 3, none⟩ = some (.string (X2 (c : Int)).1.t) := (by go_simp); clear hc2 hf2)) | (go_at_call 6; (fail_if_success (have := w2)); ((with_reducible refine (P2.out _ _).mono ?_); rintro e w2 ⟨rfl, hb2⟩; (try (replace hb2 := below_undrew hb2)); (try (replace hb2 := below_undrewN hb2)); obtain ⟨hc2, hf2⟩ := bcell hb2; (try (have hz0_2 : w.heap.size < w2.heap.size := (by have := hb2.size; (try simp at this); omega))); (try (have hz1_2 : w.heap.size + 1 < w2.heap.size := (by have := hb2.size; (try simp at this); omega))); (try (have hz2_2 : w.heap.size + 2 < w2.heap.size := (by have := hb2.size; (try simp at this); omega))); (try (have hz_1_2 : w1.heap.size < w2.heap.size := (by have := hb2.size; (try simp at this); omega))); have p2_0 : w2.cell? ⟨w2.heap.size, 0, none⟩ = some (.int .i64 (X1 (c : Int)).1.k) := (by go_simp); have p2_1 : w2.cell? ⟨w2.heap.size, 1, none⟩ = some (.int .i64 (X1 (c : Int)).1.n) := (by go_simp); have p2_2 : w2.cell? ⟨w2.heap.size, 2, none⟩ = some (.int .u64 (X1 (c : Int)).1.f) := (by go_simp); have p2_3 : w2.cell? ⟨w2.heap.size, 3, none⟩ = some (.string (X1 (c : Int)).1.t) := (by go_simp); have q2_0 : w2.cell? ⟨w3.heap.size, 0, none⟩ = some (.int .i64 (X2 (c : Int)).1.k) := (by go_simp); have q2_1 : w2.cell? ⟨w3.heap.size, 1, none⟩ = some (.int .i64 (X2 (c : Int)).1.n) := (by go_simp); have q2_2 : w2.cell? ⟨w3.heap.size, 2, none⟩ = some (.int .u64 (X2 (c : Int)).1.f) := (by go_simp); have q2_3 : w2.cell? ⟨w3.heap.size, 3, none⟩ = some (.string (X2 (c : Int)).1.t) := (by go_simp))) | (go_at_call 7; (fail_if_success (have := w3)); ((with_reducible refine (P3.out _ _).mono ?_); rintro e w3 ⟨rfl, hb3⟩; (try (replace hb3 := below_undrew hb3)); (try (replace hb3 := below_undrewN hb3)); obtain ⟨hc3, hf3⟩ := bcell hb3; (try (have hz0_3 : w.heap.size < w3.heap.size := (by have := hb3.size; (try simp at this); omega))); (try (have hz1_3 : w.heap.size + 1 < w3.heap.size := (by have := hb3.size; (try simp at this); omega))); (try (have hz2_3 : w.heap.size + 2 < w3.heap.size := (by have := hb3.size; (try simp at this); omega))); (try (have hz_1_3 : w1.heap.size < w3.heap.size := (by have := hb3.size; (try simp at this); omega))); (try (have hz_2_3 : w2.heap.size < w3.heap.size := (by have := hb3.size; (try simp at this); omega))); have p3_0 : w3.cell? ⟨w2.heap.size, 0, none⟩ = some (.int .i64 v.k) := (by go_simp); have p3_1 : w3.cell? ⟨w2.heap.size, 1, none⟩ = some (.int .i64 v.n) := (by go_simp); have p3_2 : w3.cell? ⟨w2.heap.size, 2, none⟩ = some (.int .u64 v.f) := (by go_simp); have p3_3 : w3.cell? ⟨w2.heap.size, 3, none⟩ = some (.string v.t) := (by go_simp); have q3_0 : w3.cell? ⟨w3.heap.size, 0, none⟩ = some (.int .i64 u.k) := (by go_simp); have q3_1 : w3.cell? ⟨w3.heap.size, 1, none⟩ = some (.int .i64 u.n) := (by go_simp); have q3_2 : w3.cell? ⟨w3.heap.size, 2, none⟩ = some (.int .u64 u.f) := (by go_simp); have q3_3 : w3.cell? ⟨w3.heap.size, 3, none⟩ = some (.string u.t) := (by go_simp))) | (go_at_call 8; (fail_if_success (have := w3)); ((with_reducible refine (P4.out _ _).mono ?_); rintro e w3 ⟨rfl, hb3⟩; (try (replace hb3 := below_undrew hb3)); (try (replace hb3 := below_undrewN hb3)); obtain ⟨hc3, hf3⟩ := bcell hb3; (try (have hz0_3 : w.heap.size < w3.heap.size := (by have := hb3.size; (try simp at this); omega))); (try (have hz1_3 : w.heap.size + 1 < w3.heap.size := (by have := hb3.size; (try simp at this); omega))); (try (have hz2_3 : w.heap.size + 2 < w3.heap.size := (by have := hb3.size; (try simp at this); omega))); (try (have hz_1_3 : w1.heap.size < w3.heap.size := (by have := hb3.size; (try simp at this); omega))); (try (have hz_2_3 : w2.heap.size < w3.heap.size := (by have := hb3.size; (try simp at this); omega))); have m3_0 : w3.frozen? ⟨w2.heap.size, 0, none⟩ = false := (by go_simp); have l3_0 : w3.frozen? ⟨w3.heap.size, 0, none⟩ = false := (by go_simp); have m3_1 : w3.frozen? ⟨w2.heap.size, 1, none⟩ = false := (by go_simp); have l3_1 : w3.frozen? ⟨w3.heap.size, 1, none⟩ = false := (by go_simp); have m3_2 : w3.frozen? ⟨w2.heap.size, 2, none⟩ = false := (by go_simp); have l3_2 : w3.frozen? ⟨w3.heap.size, 2, none⟩ = false := (by go_simp); have m3_3 : w3.frozen? ⟨w2.heap.size, 3, none⟩ = false := (by go_simp); have l3_3 : w3.frozen? ⟨w3.heap.size, 3, none⟩ = false := (by go_simp); have a3_0 : w3.cell? ⟨w.heap.size, 0, none⟩ = some (.int .i64 c0) := (by go_simp); have a3_1 : w3.cell? ⟨w.heap.size, 1, none⟩ = some (.int .i64 q) := (by go_simp); have x3_0 : w3.cell? ⟨w.heap.size + 1, 0, none⟩ = some (.int .i64 k) := (by go_simp); have x3_1 : w3.cell? ⟨w.heap.size + 1, 1, none⟩ = some (.int .i64 n) := (by go_simp); have x3_2 : w3.cell? ⟨w.heap.size + 1, 2, none⟩ = some (.int .u64 f) := (by go_simp); have x3_3 : w3.cell? ⟨w.heap.size + 1, 3, none⟩ = some (.string t) := (by go_simp); have y3_0 : w3.cell? ⟨w.heap.size + 1 + 1, 0, none⟩ = some (.int .i64 k') := (by go_simp); have y3_1 : w3.cell? ⟨w.heap.size + 1 + 1, 1, none⟩ = some (.int .i64 n') := (by go_simp); have y3_2 : w3.cell? ⟨w.heap.size + 1 + 1, 2, none⟩ = some (.int .u64 f') := (by go_simp); have y3_3 : w3.cell? ⟨w.heap.size + 1 + 1, 3, none⟩ = some (.string t') := (by go_simp); have p3_0 : w3.cell? ⟨w2.heap.size, 0, none⟩ = some (.int .i64 (X2 (c : Int)).1.k) := (by go_simp); have p3_1 : w3.cell? ⟨w2.heap.size, 1, none⟩ = some (.int .i64 (X2 (c : Int)).1.n) := (by go_simp); have p3_2 : w3.cell? ⟨w2.heap.size, 2, none⟩ = some (.int .u64 (X2 (c : Int)).1.f) := (by go_simp); have p3_3 : w3.cell? ⟨w2.heap.size, 3, none⟩ = some (.string (X2 (c : Int)).1.t) := (by go_simp); have q3_0 : w3.cell? ⟨w3.heap.size, 0, none⟩ = some (.int .i64 u.k) := (by go_simp); have q3_1 : w3.cell? ⟨w3.heap.size, 1, none⟩ = some (.int .i64 u.n) := (by go_simp); have q3_2 : w3.cell? ⟨w3.heap.size, 2, none⟩ = some (.int .u64 u.f) := (by go_simp); have q3_3 : w3.cell? ⟨w3.heap.size, 3, none⟩ = some (.string u.t) := (by go_simp); clear hc3 hf3)) | (go_at_call 5; (fail_if_success (have := w3)); ((with_reducible refine (P1.out _ _ (ht.below (by repeat (first | (with_reducible exact HB.out) | (with_reducible exact Below.refl _ _) | (with_reducible refine below_al ?_ _) | (with_reducible refine below_drewN ?_ _) | (with_reducible refine Below.drew ?_) | (with_reducible refine below_via (by assumption) ?_) | (with_reducible refine below_sc ?_ ?_ _; · (first | (simp; done) | (simp; omega) | omega)))))).mono ?_); rintro e w3 ⟨rfl, hb3⟩; (try (replace hb3 := below_undrew hb3)); (try (replace hb3 := below_undrewN hb3)); obtain ⟨hc3, hf3⟩ := bcell hb3; (try (have hz0_3 : w.heap.size < w3.heap.size := (by have := hb3.size; (try simp at this); omega))); (try (have hz1_3 : w.heap.size + 1 < w3.heap.size := (by have := hb3.size; (try simp at this); omega))); (try (have hz2_3 : w.heap.size + 2 < w3.heap.size := (by have := hb3.size; (try simp at this); omega))); (try (have hz_1_3 : w1.heap.size < w3.heap.size := (by have := hb3.size; (try simp at this); omega))); (try (have hz_2_3 : w2.heap.size < w3.heap.size := (by have := hb3.size; (try simp at this); omega))); have m3_0 : w3.frozen? ⟨w2.heap.size, 0, none⟩ = false := (by go_simp); have l3_0 : w3.frozen? ⟨w3.heap.size, 0, none⟩ = false := (by go_simp); have m3_1 : w3.frozen? ⟨w2.heap.size, 1, none⟩ = false := (by go_simp); have l3_1 : w3.frozen? ⟨w3.heap.size, 1, none⟩ = false := (by go_simp); have m3_2 : w3.frozen? ⟨w2.heap.size, 2, none⟩ = false := (by go_simp); have l3_2 : w3.frozen? ⟨w3.heap.size, 2, none⟩ = false := (by go_simp); have m3_3 : w3.frozen? ⟨w2.heap.size, 3, none⟩ = false := (by go_simp); have l3_3 : w3.frozen? ⟨w3.heap.size, 3, none⟩ = false := (by go_simp); have a3_0 : w3.cell? ⟨w.heap.size, 0, none⟩ = some (.int .i64 c0) := (by go_simp); have a3_1 : w3.cell? ⟨w.heap.size, 1, none⟩ = some (.int .i64 q) := (by go_simp); have x3_0 : w3.cell? ⟨w.heap.size + 1, 0, none⟩ = some (.int .i64 k) := (by go_simp); have x3_1 : w3.cell? ⟨w.heap.size + 1, 1, none⟩ = some (.int .i64 n) := (by go_simp); have x3_2 : w3.cell? ⟨w.heap.size + 1, 2, none⟩ = some (.int .u64 f) := (by go_simp); have x3_3 : w3.cell? ⟨w.heap.size + 1, 3, none⟩ = some (.string t) := (by go_simp); have y3_0 : w3.cell? ⟨w.heap.size + 1 + 1, 0, none⟩ = some (.int .i64 k') := (by go_simp); have y3_1 : w3.cell? ⟨w.heap.size + 1 + 1, 1, none⟩ = some (.int .i64 n') := (by go_simp); have y3_2 : w3.cell? ⟨w.heap.size + 1 + 1, 2, none⟩ = some (.int .u64 f') := (by go_simp); have y3_3 : w3.cell? ⟨w.heap.size + 1 + 1, 3, none⟩ = some (.string t') := (by go_simp); have p3_0 : w3.cell? ⟨w2.heap.size, 0, none⟩ = some (.int .i64 (X2 (c : Int)).1.k) := (by go_simp); have p3_1 : w3.cell? ⟨w2.heap.size, 1, none⟩ = some (.int .i64 (X2 (c : Int)).1.n) := (by go_simp); have p3_2 : w3.cell? ⟨w2.heap.size, 2, none⟩ = some (.int .u64 (X2 (c : Int)).1.f) := (by go_simp); have p3_3 : w3.cell? ⟨w2.heap.size, 3, none⟩ = some (.string (X2 (c : Int)).1.t) := (by go_simp); have q3_0 : w3.cell? ⟨w3.heap.size, 0, none⟩ = some (.int .i64 (X2 (c : Int)).1.k) := (by go_simp); have q3_1 : w3.cell? ⟨w3.heap.size, 1, none⟩ = some (.int .i64 (X2 (c : Int)).1.n) := (by go_simp); have q3_2 : w3.cell? ⟨w3.heap.size, 2, none⟩ = some (.int .u64 (X2 (c : Int)).1.f) := (by go_simp); have q3_3 : w3.cell? ⟨w3.heap.size, 3, none⟩ = some (.string (X2 (c : Int)).1.t) := (by go_simp); clear hc3 hf3)) | (go_at_call 6; (fail_if_success (have := w3)); ((with_reducible refine (P2.out _ _).mono ?_); rintro e w3 ⟨rfl, hb3⟩; (try (replace hb3 := below_undrew hb3)); (try (replace hb3 := below_undrewN hb3)); obtain ⟨hc3, hf3⟩ := bcell hb3; (try (have hz0_3 : w.heap.size < w3.heap.size := (by have := hb3.size; (try simp at this); omega))); (try (have hz1_3 : w.heap.size + 1 < w3.heap.size := (by have := hb3.size; (try simp at this); omega))); (try (have hz2_3 : w.heap.size + 2 < w3.heap.size := (by have := hb3.size; (try simp at this); omega))); (try (have hz_1_3 : w1.heap.size < w3.heap.size := (by have := hb3.size; (try simp at this); omega))); (try (have hz_2_3 : w2.heap.size < w3.heap.size := (by have := hb3.size; (try simp at this); omega))); have p3_0 : w3.cell? ⟨w2.heap.size, 0, none⟩ = some (.int .i64 (X1 (c : Int)).1.k) := (by go_simp); have p3_1 : w3.cell? ⟨w2.heap.size, 1, none⟩ = some (.int .i64 (X1 (c : Int)).1.n) := (by go_simp); have p3_2 : w3.cell? ⟨w2.heap.size, 2, none⟩ = some (.int .u64 (X1 (c : Int)).1.f) := (by go_simp); have p3_3 : w3.cell? ⟨w2.heap.size, 3, none⟩ = some (.string (X1 (c : Int)).1.t) := (by go_simp); have q3_0 : w3.cell? ⟨w3.heap.size, 0, none⟩ = some (.int .i64 (X2 (c : Int)).1.k) := (by go_simp); have q3_1 : w3.cell? ⟨w3.heap.size, 1, none⟩ = some (.int .i64 (X2 (c : Int)).1.n) := (by go_simp); have q3_2 : w3.cell? ⟨w3.heap.size, 2, none⟩ = some (.int .u64 (X2 (c : Int)).1.f) := (by go_simp); have q3_3 : w3.cell? ⟨w3.heap.size, 3, none⟩ = some (.string (X2 (c : Int)).1.t) := (by go_simp))) | (go_at_call 7; (fail_if_success (have := w4)); ((with_reducible refine (P3.out _ _).mono ?_); rintro e w4 ⟨rfl, hb4⟩; (try (replace hb4 := below_undrew hb4)); (try (replace hb4 := below_undrewN hb4)); obtain ⟨hc4, hf4⟩ := bcell hb4; (try (have hz0_4 : w.heap.size < w4.heap.size := (by have := hb4.size; (try simp at this); omega))); (try (have hz1_4 : w.heap.size + 1 < w4.heap.size := (by have := hb4.size; (try simp at this); omega))); (try (have hz2_4 : w.heap.size + 2 < w4.heap.size := (by have := hb4.size; (try simp at this); omega))); (try (have hz_1_4 : w1.heap.size < w4.heap.size := (by have := hb4.size; (try simp at this); omega))); (try (have hz_2_4 : w2.heap.size < w4.heap.size := (by have := hb4.size; (try simp at this); omega))); (try (have hz_3_4 : w3.heap.size < w4.heap.size := (by have := hb4.size; (try simp at this); omega))); have p4_0 : w4.cell? ⟨w2.heap.size, 0, none⟩ = some (.int .i64 v.k) := (by go_simp); have p4_1 : w4.cell? ⟨w2.heap.size, 1, none⟩ = some (.int .i64 v.n) := (by go_simp); have p4_2 : w4.cell? ⟨w2.heap.size, 2, none⟩ = some (.int .u64 v.f) := (by go_simp); have p4_3 : w4.cell? ⟨w2.heap.size, 3, none⟩ = some (.string v.t) := (by go_simp); have q4_0 : w4.cell? ⟨w3.heap.size, 0, none⟩ = some (.int .i64 u.k) := (by go_simp); have q4_1 : w4.cell? ⟨w3.heap.size, 1, none⟩ = some (.int .i64 u.n) := (by go_simp); have q4_2 : w4.cell? ⟨w3.heap.size, 2, none⟩ = some (.int .u64 u.f) := (by go_simp); have q4_3 : w4.cell? ⟨w3.heap.size, 3, none⟩ = some (.string u.t) := (by go_simp))) | (go_at_call 8; (fail_if_success (have := w4)); ((with_reducible refine (P4.out _ _).mono ?_); rintro e w4 ⟨rfl, hb4⟩; (try (replace hb4 := below_undrew hb4)); (try (replace hb4 := below_undrewN hb4)); obtain ⟨hc4, hf4⟩ := bcell hb4; (try (have hz0_4 : w.heap.size < w4.heap.size := (by have := hb4.size; (try simp at this); omega))); (try (have hz1_4 : w.heap.size + 1 < w4.heap.size := (by have := hb4.size; (try simp at this); omega))); (try (have hz2_4 : w.heap.size + 2 < w4.heap.size := (by have := hb4.size; (try simp at this); omega))); (try (have hz_1_4 : w1.heap.size < w4.heap.size := (by have := hb4.size; (try simp at this); omega))); (try (have hz_2_4 : w2.heap.size < w4.heap.size := (by have := hb4.size; (try simp at this); omega))); (try (have hz_3_4 : w3.heap.size < w4.heap.size := (by have := hb4.size; (try simp at this); omega))); have m4_0 : w4.frozen? ⟨w2.heap.size, 0, none⟩ = false := (by go_simp); have l4_0 : w4.frozen? ⟨w3.heap.size, 0, none⟩ = false := (by go_simp); have m4_1 : w4.frozen? ⟨w2.heap.size, 1, none⟩ = false := (by go_simp); have l4_1 : w4.frozen? ⟨w3.heap.size, 1, none⟩ = false := (by go_simp); have m4_2 : w4.frozen? ⟨w2.heap.size, 2, none⟩ = false := (by go_simp); have l4_2 : w4.frozen? ⟨w3.heap.size, 2, none⟩ = false := (by go_simp); have m4_3 : w4.frozen? ⟨w2.heap.size, 3, none⟩ = false := (by go_simp); have l4_3 : w4.frozen? ⟨w3.heap.size, 3, none⟩ = false := (by go_simp); have a4_0 : w4.cell? ⟨w.heap.size, 0, none⟩ = some (.int .i64 c0) := (by go_simp); have a4_1 : w4.cell? ⟨w.heap.size, 1, none⟩ = some (.int .i64 q) := (by go_simp); have x4_0 : w4.cell? ⟨w.heap.size + 1, 0, none⟩ = some (.int .i64 k) := (by go_simp); have x4_1 : w4.cell? ⟨w.heap.size + 1, 1, none⟩ = some (.int .i64 n) := (by go_simp); have x4_2 : w4.cell? ⟨w.heap.size + 1, 2, none⟩ = some (.int .u64 f) := (by go_simp); have x4_3 : w4.cell? ⟨w.heap.size + 1, 3, none⟩ = some (.string t) := (by go_simp); have y4_0 : w4.cell? ⟨w.heap.size + 1 + 1, 0, none⟩ = some (.int .i64 k') := (by go_simp); have y4_1 : w4.cell? ⟨w.heap.size + 1 + 1, 1, none⟩ = some (.int .i64 n') := (by go_simp); have y4_2 : w4.cell? ⟨w.heap.size + 1 + 1, 2, none⟩ = some (.int .u64 f') := (by go_simp); have y4_3 : w4.cell? ⟨w.heap.size + 1 + 1, 3, none⟩ = some (.string t') := (by go_simp); have p4_0 : w4.cell? ⟨w2.heap.size, 0, none⟩ = some (.int .i64 (X2 (c : Int)).1.k) := (by go_simp); have p4_1 : w4.cell? ⟨w2.heap.size, 1, none⟩ = some (.int .i64 (X2 (c : Int)).1.n) := (by go_simp); have p4_2 : w4.cell? ⟨w2.heap.size, 2, none⟩ = some (.int .u64 (X2 (c : Int)).1.f) := (by go_simp); have p4_3 : w4.cell? ⟨w2.heap.size, 3, none⟩ = some (.string (X2 (c : Int)).1.t) := (by go_simp); have q4_0 : w4.cell? ⟨w3.heap.size, 0, none⟩ = some (.int .i64 u.k) := (by go_simp); have q4_1 : w4.cell? ⟨w3.heap.size, 1, none⟩ = some (.int .i64 u.n) := (by go_simp); have q4_2 : w4.cell? ⟨w3.heap.size, 2, none⟩ = some (.int .u64 u.f) := (by go_simp); have q4_3 : w4.cell? ⟨w3.heap.size, 3, none⟩ = some (.string u.t) := (by go_simp); clear hc4 hf4)) | (go_at_call 5; (fail_if_success (have := w4)); ((with_reducible refine (P1.out _ _ (ht.below (by repeat (first | (with_reducible exact HB.out) | (with_reducible exact Below.refl _ _) | (with_reducible refine below_al ?_ _) | (with_reducible refine below_drewN ?_ _) | (with_reducible refine Below.drew ?_) | (with_reducible refine below_via (by assumption) ?_) | (with_reducible refine below_sc ?_ ?_ _; · (first | (simp; done) | (simp; omega) | omega)))))).mono ?_); rintro e w4 ⟨rfl, hb4⟩; (try (replace hb4 := below_undrew hb4)); (try (replace hb4 := below_undrewN hb4)); obtain ⟨hc4, hf4⟩ := bcell hb4; (try (have hz0_4 : w.heap.size < w4.heap.size := (by have := hb4.size; (try simp at this); omega))); (try (have hz1_4 : w.heap.size + 1 < w4.heap.size := (by have := hb4.size; (try simp at this); omega))); (try (have hz2_4 : w.heap.size + 2 < w4.heap.size := (by have := hb4.size; (try simp at this); omega))); (try (have hz_1_4 : w1.heap.size < w4.heap.size := (by have := hb4.size; (try simp at this); omega))); (try (have hz_2_4 : w2.heap.size < w4.heap.size := (by have := hb4.size; (try simp at this); omega))); (try (have hz_3_4 : w3.heap.size < w4.heap.size := (by have := hb4.size; (try simp at this); omega))); have m4_0 : w4.frozen? ⟨w2.heap.size, 0, none⟩ = false := (by go_simp); have l4_0 : w4.frozen? ⟨w3.heap.size, 0, none⟩ = false := (by go_simp); have m4_1 : w4.frozen? ⟨w2.heap.size, 1, none⟩ = false := (by go_simp); have l4_1 : w4.frozen? ⟨w3.heap.size, 1, none⟩ = false := (by go_simp); have m4_2 : w4.frozen? ⟨w2.heap.size, 2, none⟩ = false := (by go_simp); have l4_2 : w4.frozen? ⟨w3.heap.size, 2, none⟩ = false := (by go_simp); have m4_3 : w4.frozen? ⟨w2.heap.size, 3, none⟩ = false := (by go_simp); have l4_3 : w4.frozen? ⟨w3.heap.size, 3, none⟩ = false := (by go_simp); have a4_0 : w4.cell? ⟨w.heap.size, 0, none⟩ = some (.int .i64 c0) := (by go_simp); have a4_1 : w4.cell? ⟨w.heap.size, 1, none⟩ = some (.int .i64 q) := (by go_simp); have x4_0 : w4.cell? ⟨w.heap.size + 1, 0, none⟩ = some (.int .i64 k) := (by go_simp); have x4_1 : w4.cell? ⟨w.heap.size + 1, 1, none⟩ = some (.int .i64 n) := (by go_simp); have x4_2 : w4.cell? ⟨w.heap.size + 1, 2, none⟩ = some (.int .u64 f) := (by go_simp); have x4_3 : w4.cell? ⟨w.heap.size + 1, 3, none⟩ = some (.string t) := (by go_simp); have y4_0 : w4.cell? ⟨w.heap.size + 1 + 1, 0, none⟩ = some (.int .i64 k') := (by go_simp); have y4_1 : w4.cell? ⟨w.heap.size + 1 + 1, 1, none⟩ = some (.int .i64 n') := (by go_simp); have y4_2 : w4.cell? ⟨w.heap.size + 1 + 1, 2, none⟩ = some (.int .u64 f') := (by go_simp); have y4_3 : w4.cell? ⟨w.heap.size + 1 + 1, 3, none⟩ = some (.string t') := (by go_simp); have p4_0 : w4.cell? ⟨w2.heap.size, 0, none⟩ = some (.int .i64 (X2 (c : Int)).1.k) := (by go_simp); have p4_1 : w4.cell? ⟨w2.heap.size, 1, none⟩ = some (.int .i64 (X2 (c : Int)).1.n) := (by go_simp); have p4_2 : w4.cell? ⟨w2.heap.size, 2, none⟩ = some (.int .u64 (X2 (c : Int)).1.f) := (by go_simp); have p4_3 : w4.cell? ⟨w2.heap.size, 3, none⟩ = some (.string (X2 (c : Int)).1.t) := (by go_simp); have q4_0 : w4.cell? ⟨w3.heap.size, 0, none⟩ = some (.int .i64 (X2 (c : Int)).1.k) := (by go_simp); have q4_1 : w4.cell? ⟨w3.heap.size, 1, none⟩ = some (.int .i64 (X2 (c : Int)).1.n) := (by go_simp); have q4_2 : w4.cell? ⟨w3.heap.size, 2, none⟩ = some (.int .u64 (X2 (c : Int)).1.f) := (by go_simp); have q4_3 : w4.cell? ⟨w3.heap.size, 3, none⟩ = some (.string (X2 (c : Int)).1.t) := (by go_simp); clear hc4 hf4)) | (go_at_call 6; (fail_if_success (have := w4)); ((with_reducible refine (P2.out _ _).mono ?_); rintro e w4 ⟨rfl, hb4⟩; (try (replace hb4 := below_undrew hb4)); (try (replace hb4 := below_undrewN hb4)); obtain ⟨hc4, hf4⟩ := bcell hb4; (try (have hz0_4 : w.heap.size < w4.heap.size := (by have := hb4.size; (try simp at this); omega))); (try (have hz1_4 : w.heap.size + 1 < w4.heap.size := (by have := hb4.size; (try simp at this); omega))); (try (have hz2_4 : w.heap.size + 2 < w4.heap.size := (by have := hb4.size; (try simp at this); omega))); (try (have hz_1_4 : w1.heap.size < w4.heap.size := (by have := hb4.size; (try simp at this); omega))); (try (have hz_2_4 : w2.heap.size < w4.heap.size := (by have := hb4.size; (try simp at this); omega))); (try (have hz_3_4 : w3.heap.size < w4.heap.size := (by have := hb4.size; (try simp at this); omega))); have p4_0 : w4.cell? ⟨w2.heap.size, 0, none⟩ = some (.int .i64 (X1 (c : Int)).1.k) := (by go_simp); have p4_1 : w4.cell? ⟨w2.heap.size, 1, none⟩ = some (.int .i64 (X1 (c : Int)).1.n) := (by go_simp); have p4_2 : w4.cell? ⟨w2.heap.size, 2, none⟩ = some (.int .u64 (X1 (c : Int)).1.f) := (by go_simp); have p4_3 : w4.cell? ⟨w2.heap.size, 3, none⟩ = some (.string (X1 (c : Int)).1.t) := (by go_simp); have q4_0 : w4.cell? ⟨w3.heap.size, 0, none⟩ = some (.int .i64 (X2 (c : Int)).1.k) := (by go_simp); have q4_1 : w4.cell? ⟨w3.heap.size, 1, none⟩ = some (.int .i64 (X2 (c : Int)).1.n) := (by go_simp); have q4_2 : w4.cell? ⟨w3.heap.size, 2, none⟩ = some (.int .u64 (X2 (c : Int)).1.f) := (by go_simp); have q4_3 : w4.cell? ⟨w3.heap.size, 3, none⟩ = some (.string (X2 (c : Int)).1.t) := (by go_simp))) | (go_at_call 7; (fail_if_success (have := w5)); ((with_reducible refine (P3.out _ _).mono ?_); rintro e w5 ⟨rfl, hb5⟩; (try (replace hb5 := below_undrew hb5)); (try (replace hb5 := below_undrewN hb5)); obtain ⟨hc5, hf5⟩ := bcell hb5; (try (have hz0_5 : w.heap.size < w5.heap.size := (by have := hb5.size; (try simp at this); omega))); (try (have hz1_5 : w.heap.size + 1 < w5.heap.size := (by have := hb5.size; (try simp at this); omega))); (try (have hz2_5 : w.heap.size + 2 < w5.heap.size := (by have := hb5.size; (try simp at this); omega))); (try (have hz_1_5 : w1.heap.size < w5.heap.size := (by have := hb5.size; (try simp at this); omega))); (try (have hz_2_5 : w2.heap.size < w5.heap.size := (by have := hb5.size; (try simp at this); omega))); (try (have hz_3_5 : w3.heap.size < w5.heap.size := (by have := hb5.size; (try simp at this); omega))); (try (have hz_4_5 : w4.heap.size < w5.heap.size := (by have := hb5.size; (try simp at this); omega))); have p5_0 : w5.cell? ⟨w2.heap.size, 0, none⟩ = some (.int .i64 v.k) := (by go_simp); have p5_1 : w5.cell? ⟨w2.heap.size, 1, none⟩ = some (.int .i64 v.n) := (by go_simp); have p5_2 : w5.cell? ⟨w2.heap.size, 2, none⟩ = some (.int .u64 v.f) := (by go_simp); have p5_3 : w5.cell? ⟨w2.heap.size, 3, none⟩ = some (.string v.t) := (by go_simp); have q5_0 : w5.cell? ⟨w3.heap.size, 0, none⟩ = some (.int .i64 u.k) := (by go_simp); have q5_1 : w5.cell? ⟨w3.heap.size, 1, none⟩ = some (.int .i64 u.n) := (by go_simp); have q5_2 : w5.cell? ⟨w3.heap.size, 2, none⟩ = some (.int .u64 u.f) := (by go_simp); have q5_3 : w5.cell? ⟨w3.heap.size, 3, none⟩ = some (.string u.t) := (by go_simp))) | (go_at_call 8; (fail_if_success (have := w5)); ((with_reducible refine (P4.out _ _).mono ?_); rintro e w5 ⟨rfl, hb5⟩; (try (replace hb5 := below_undrew hb5)); (try (replace hb5 := below_undrewN hb5)); obtain ⟨hc5, hf5⟩ := bcell hb5; (try (have hz0_5 : w.heap.size < w5.heap.size := (by have := hb5.size; (try simp at this); omega))); (try (have hz1_5 : w.heap.size + 1 < w5.heap.size := (by have := hb5.size; (try simp at this); omega))); (try (have hz2_5 : w.heap.size + 2 < w5.heap.size := (by have := hb5.size; (try simp at this); omega))); (try (have hz_1_5 : w1.heap.size < w5.heap.size := (by have := hb5.size; (try simp at this); omega))); (try (have hz_2_5 : w2.heap.size < w5.heap.size := (by have := hb5.size; (try simp at this); omega))); (try (have hz_3_5 : w3.heap.size < w5.heap.size := (by have := hb5.size; (try simp at this); omega))); (try (have hz_4_5 : w4.heap.size < w5.heap.size := (by have := hb5.size; (try simp at this); omega))); have m5_0 : w5.frozen? ⟨w2.heap.size, 0, none⟩ = false := (by go_simp); have l5_0 : w5.frozen? ⟨w3.heap.size, 0, none⟩ = false := (by go_simp); have m5_1 : w5.frozen? ⟨w2.heap.size, 1, none⟩ = false := (by go_simp); have l5_1 : w5.frozen? ⟨w3.heap.size, 1, none⟩ = false := (by go_simp); have m5_2 : w5.frozen? ⟨w2.heap.size, 2, none⟩ = false := (by go_simp); have l5_2 : w5.frozen? ⟨w3.heap.size, 2, none⟩ = false := (by go_simp); have m5_3 : w5.frozen? ⟨w2.heap.size, 3, none⟩ = false := (by go_simp); have l5_3 : w5.frozen? ⟨w3.heap.size, 3, none⟩ = false := (by go_simp); have a5_0 : w5.cell? ⟨w.heap.size, 0, none⟩ = some (.int .i64 c0) := (by go_simp); have a5_1 : w5.cell? ⟨w.heap.size, 1, none⟩ = some (.int .i64 q) := (by go_simp); have x5_0 : w5.cell? ⟨w.heap.size + 1, 0, none⟩ = some (.int .i64 k) := (by go_simp); have x5_1 : w5.cell? ⟨w.heap.size + 1, 1, none⟩ = some (.int .i64 n) := (by go_simp); have x5_2 : w5.cell? ⟨w.heap.size + 1, 2, none⟩ = some (.int .u64 f) := (by go_simp); have x5_3 : w5.cell? ⟨w.heap.size + 1, 3, none⟩ = some (.string t) := (by go_simp); have y5_0 : w5.cell? ⟨w.heap.size + 1 + 1, 0, none⟩ = some (.int .i64 k') := (by go_simp); have y5_1 : w5.cell? ⟨w.heap.size + 1 + 1, 1, none⟩ = some (.int .i64 n') := (by go_simp); have y5_2 : w5.cell? ⟨w.heap.size + 1 + 1, 2, none⟩ = some (.int .u64 f') := (by go_simp); have y5_3 : w5.cell? ⟨w.heap.size + 1 + 1, 3, none⟩ = some (.string t') := (by go_simp); have p5_0 : w5.cell? ⟨w2.heap.size, 0, none⟩ = some (.int .i64 (X2 (c : Int)).1.k) := (by go_simp); have p5_1 : w5.cell? ⟨w2.heap.size, 1, none⟩ = some (.int .i64 (X2 (c : Int)).1.n) := (by go_simp); have p5_2 : w5.cell? ⟨w2.heap.size, 2, none⟩ = some (.int .u64 (X2 (c : Int)).1.f) := (by go_simp); have p5_3 : w5.cell? ⟨w2.heap.size, 3, none⟩ = some (.string (X2 (c : Int)).1.t) := (by go_simp); have q5_0 : w5.cell? ⟨w3.heap.size, 0, none⟩ = some (.int .i64 u.k) := (by go_simp); have q5_1 : w5.cell? ⟨w3.heap.size, 1, none⟩ = some (.int .i64 u.n) := (by go_simp); have q5_2 : w5.cell? ⟨w3.heap.size, 2, none⟩ = some (.int .u64 u.f) := (by go_simp); have q5_3 : w5.cell? ⟨w3.heap.size, 3, none⟩ = some (.string u.t) := (by go_simp); clear hc5 hf5)) | (go_at_call 5; (fail_if_success (have := w5)); ((with_reducible refine (P1.out _ _ (ht.below (by repeat (first | (with_reducible exact HB.out) | (with_reducible exact Below.refl _ _) | (with_reducible refine below_al ?_ _) | (with_reducible refine below_drewN ?_ _) | (with_reducible refine Below.drew ?_) | (with_reducible refine below_via (by assumption) ?_) | (with_reducible refine below_sc ?_ ?_ _; · (first | (simp; done) | (simp; omega) | omega)))))).mono ?_); rintro e w5 ⟨rfl, hb5⟩; (try (replace hb5 := below_undrew hb5)); (try (replace hb5 := below_undrewN hb5)); obtain ⟨hc5, hf5⟩ := bcell hb5; (try (have hz0_5 : w.heap.size < w5.heap.size := (by have := hb5.size; (try simp at this); omega))); (try (have hz1_5 : w.heap.size + 1 < w5.heap.size := (by have := hb5.size; (try simp at this); omega))); (try (have hz2_5 : w.heap.size + 2 < w5.heap.size := (by have := hb5.size; (try simp at this); omega))); (try (have hz_1_5 : w1.heap.size < w5.heap.size := (by have := hb5.size; (try simp at this); omega))); (try (have hz_2_5 : w2.heap.size < w5.heap.size := (by have := hb5.size; (try simp at this); omega))); (try (have hz_3_5 : w3.heap.size < w5.heap.size := (by have := hb5.size; (try simp at this); omega))); (try (have hz_4_5 : w4.heap.size < w5.heap.size := (by have := hb5.size; (try simp at this); omega))); have m5_0 : w5.frozen? ⟨w2.heap.size, 0, none⟩ = false := (by go_simp); have l5_0 : w5.frozen? ⟨w3.heap.size, 0, none⟩ = false := (by go_simp); have m5_1 : w5.frozen? ⟨w2.heap.size, 1, none⟩ = false := (by go_simp); have l5_1 : w5.frozen? ⟨w3.heap.size, 1, none⟩ = false := (by go_simp); have m5_2 : w5.frozen? ⟨w2.heap.size, 2, none⟩ = false := (by go_simp); have l5_2 : w5.frozen? ⟨w3.heap.size, 2, none⟩ = false := (by go_simp); have m5_3 : w5.frozen? ⟨w2.heap.size, 3, none⟩ = false := (by go_simp); have l5_3 : w5.frozen? ⟨w3.heap.size, 3, none⟩ = false := (by go_simp); have a5_0 : w5.cell? ⟨w.heap.size, 0, none⟩ = some (.int .i64 c0) := (by go_simp); have a5_1 : w5.cell? ⟨w.heap.size, 1, none⟩ = some (.int .i64 q) := (by go_simp); have x5_0 : w5.cell? ⟨w.heap.size + 1, 0, none⟩ = some (.int .i64 k) := (by go_simp); have x5_1 : w5.cell? ⟨w.heap.size + 1, 1, none⟩ = some (.int .i64 n) := (by go_simp); have x5_2 : w5.cell? ⟨w.heap.size + 1, 2, none⟩ = some (.int .u64 f) := (by go_simp); have x5_3 : w5.cell? ⟨w.heap.size + 1, 3, none⟩ = some (.string t) := (by go_simp); have y5_0 : w5.cell? ⟨w.heap.size + 1 + 1, 0, none⟩ = some (.int .i64 k') := (by go_simp); have y5_1 : w5.cell? ⟨w.heap.size + 1 + 1, 1, none⟩ = some (.int .i64 n') := (by go_simp); have y5_2 : w5.cell? ⟨w.heap.size + 1 + 1, 2, none⟩ = some (.int .u64 f') := (by go_simp); have y5_3 : w5.cell? ⟨w.heap.size + 1 + 1, 3, none⟩ = some (.string t') := (by go_simp); have p5_0 : w5.cell? ⟨w2.heap.size, 0, none⟩ = some (.int .i64 (X2 (c : Int)).1.k) := (by go_simp); have p5_1 : w5.cell? ⟨w2.heap.size, 1, none⟩ = some (.int .i64 (X2 (c : Int)).1.n) := (by go_simp); have p5_2 : w5.cell? ⟨w2.heap.size, 2, none⟩ = some (.int .u64 (X2 (c : Int)).1.f) := (by go_simp); have p5_3 : w5.cell? ⟨w2.heap.size, 3, none⟩ = some (.string (X2 (c : Int)).1.t) := (by go_simp); have q5_0 : w5.cell? ⟨w3.heap.size, 0, none⟩ = some (.int .i64 (X2 (c : Int)).1.k) := (by go_simp); have q5_1 : w5.cell? ⟨w3.heap.size, 1, none⟩ = some (.int .i64 (X2 (c : Int)).1.n) := (by go_simp); have q5_2 : w5.cell? ⟨w3.heap.size, 2, none⟩ = some (.int .u64 (X2 (c : Int)).1.f) := (by go_simp); have q5_3 : w5.cell? ⟨w3.heap.size, 3, none⟩ = some (.string (X2 (c : Int)).1.t) := (by go_simp); clear hc5 hf5)) | (go_at_call 6; (fail_if_success (have := w5)); ((with_reducible refine (P2.out _ _).mono ?_); rintro e w5 ⟨rfl, hb5⟩; (try (replace hb5 := below_undrew hb5)); (try (replace hb5 := below_undrewN hb5)); obtain ⟨hc5, hf5⟩ := bcell hb5; (try (have hz0_5 : w.heap.size < w5.heap.size := (by have := hb5.size; (try simp at this); omega))); (try (have hz1_5 : w.heap.size + 1 < w5.heap.size := (by have := hb5.size; (try simp at this); omega))); (try (have hz2_5 : w.heap.size + 2 < w5.heap.size := (by have := hb5.size; (try simp at this); omega))); (try (have hz_1_5 : w1.heap.size < w5.heap.size := (by have := hb5.size; (try simp at this); omega))); (try (have hz_2_5 : w2.heap.size < w5.heap.size := (by have := hb5.size; (try simp at this); omega))); (try (have hz_3_5 : w3.heap.size < w5.heap.size := (by have := hb5.size; (try simp at this); omega))); (try (have hz_4_5 : w4.heap.size < w5.heap.size := (by have := hb5.size; (try simp at this); omega))); have p5_0 : w5.cell? ⟨w2.heap.size, 0, none⟩ = some (.int .i64 (X1 (c : Int)).1.k) := (by go_simp); have p5_1 : w5.cell? ⟨w2.heap.size, 1, none⟩ = some (.int .i64 (X1 (c : Int)).1.n) := (by go_simp); have p5_2 : w5.cell? ⟨w2.heap.size, 2, none⟩ = some (.int .u64 (X1 (c : Int)).1.f) := (by go_simp); have p5_3 : w5.cell? ⟨w2.heap.size, 3, none⟩ = some (.string (X1 (c : Int)).1.t) := (by go_simp); have q5_0 : w5.cell? ⟨w3.heap.size, 0, none⟩ = some (.int .i64 (X2 (c : Int)).1.k) := (by go_simp); have q5_1 : w5.cell? ⟨w3.heap.size, 1, none⟩ = some (.int .i64 (X2 (c : Int)).1.n) := (by go_simp); have q5_2 : w5.cell? ⟨w3.heap.size, 2, none⟩ = some (.int .u64 (X2 (c : Int)).1.f) := (by go_simp); have q5_3 : w5.cell? ⟨w3.heap.size, 3, none⟩ = some (.string (X2 (c : Int)).1.t) := (by go_simp))) | (go_at_call 7; (fail_if_success (have := w6)); ((with_reducible refine (P3.out _ _).mono ?_); rintro e w6 ⟨rfl, hb6⟩; (try (replace hb6 := below_undrew hb6)); (try (replace hb6 := below_undrewN hb6)); obtain ⟨hc6, hf6⟩ := bcell hb6; (try (have hz0_6 : w.heap.size < w6.heap.size := (by have := hb6.size; (try simp at this); omega))); (try (have hz1_6 : w.heap.size + 1 < w6.heap.size := (by have := hb6.size; (try simp at this); omega))); (try (have hz2_6 : w.heap.size + 2 < w6.heap.size := (by have := hb6.size; (try simp at this); omega))); (try (have hz_1_6 : w1.heap.size < w6.heap.size := (by have := hb6.size; (try simp at this); omega))); (try (have hz_2_6 : w2.heap.size < w6.heap.size := (by have := hb6.size; (try simp at this); omega))); (try (have hz_3_6 : w3.heap.size < w6.heap.size := (by have := hb6.size; (try simp at this); omega))); (try (have hz_4_6 : w4.heap.size < w6.heap.size := (by have := hb6.size; (try simp at this); omega))); (try (have hz_5_6 : w5.heap.size < w6.heap.size := (by have := hb6.size; (try simp at this); omega))); have p6_0 : w6.cell? ⟨w2.heap.size, 0, none⟩ = some (.int .i64 v.k) := (by go_simp); have p6_1 : w6.cell? ⟨w2.heap.size, 1, none⟩ = some (.int .i64 v.n) := (by go_simp); have p6_2 : w6.cell? ⟨w2.heap.size, 2, none⟩ = some (.int .u64 v.f) := (by go_simp); have p6_3 : w6.cell? ⟨w2.heap.size, 3, none⟩ = some (.string v.t) := (by go_simp); have q6_0 : w6.cell? ⟨w3.heap.size, 0, none⟩ = some (.int .i64 u.k) := (by go_simp); have q6_1 : w6.cell? ⟨w3.heap.size, 1, none⟩ = some (.int .i64 u.n) := (by go_simp); have q6_2 : w6.cell? ⟨w3.heap.size, 2, none⟩ = some (.int .u64 u.f) := (by go_simp); have q6_3 : w6.cell? ⟨w3.heap.size, 3, none⟩ = some (.string u.t) := (by go_simp))) | (go_at_call 8; (fail_if_success (have := w6)); ((with_reducible refine (P4.out _ _).mono ?_); rintro e w6 ⟨rfl, hb6⟩; (try (replace hb6 := below_undrew hb6)); (try (replace hb6 := below_undrewN hb6)); obtain ⟨hc6, hf6⟩ := bcell hb6; (try (have hz0_6 : w.heap.size < w6.heap.size := (by have := hb6.size; (try simp at this); omega))); (try (have hz1_6 : w.heap.size + 1 < w6.heap.size := (by have := hb6.size; (try simp at this); omega))); (try (have hz2_6 : w.heap.size + 2 < w6.heap.size := (by have := hb6.size; (try simp at this); omega))); (try (have hz_1_6 : w1.heap.size < w6.heap.size := (by have := hb6.size; (try simp at this); omega))); (try (have hz_2_6 : w2.heap.size < w6.heap.size := (by have := hb6.size; (try simp at this); omega))); (try (have hz_3_6 : w3.heap.size < w6.heap.size := (by have := hb6.size; (try simp at this); omega))); (try (have hz_4_6 : w4.heap.size < w6.heap.size := (by have := hb6.size; (try simp at this); omega))); (try (have hz_5_6 : w5.heap.size < w6.heap.size := (by have := hb6.size; (try simp at this); omega))); have m6_0 : w6.frozen? ⟨w2.heap.size, 0, none⟩ = false := (by go_simp); have l6_0 : w6.frozen? ⟨w3.heap.size, 0, none⟩ = false := (by go_simp); have m6_1 : w6.frozen? ⟨w2.heap.size, 1, none⟩ = false := (by go_simp); have l6_1 : w6.frozen? ⟨w3.heap.size, 1, none⟩ = false := (by go_simp); have m6_2 : w6.frozen? ⟨w2.heap.size, 2, none⟩ = false := (by go_simp); have l6_2 : w6.frozen? ⟨w3.heap.size, 2, none⟩ = false := (by go_simp); have m6_3 : w6.frozen? ⟨w2.heap.size, 3, none⟩ = false := (by go_simp); have l6_3 : w6.frozen? ⟨w3.heap.size, 3, none⟩ = false := (by go_simp); have a6_0 : w6.cell? ⟨w.heap.size, 0, none⟩ = some (.int .i64 c0) := (by go_simp); have a6_1 : w6.cell? ⟨w.heap.size, 1, none⟩ = some (.int .i64 q) := (by go_simp); have x6_0 : w6.cell? ⟨w.heap.size + 1, 0, none⟩ = some (.int .i64 k) := (by go_simp); have x6_1 : w6.cell? ⟨w.heap.size + 1, 1, none⟩ = some (.int .i64 n) := (by go_simp); have x6_2 : w6.cell? ⟨w.heap.size + 1, 2, none⟩ = some (.int .u64 f) := (by go_simp); have x6_3 : w6.cell? ⟨w.heap.size + 1, 3, none⟩ = some (.string t) := (by go_simp); have y6_0 : w6.cell? ⟨w.heap.size + 1 + 1, 0, none⟩ = some (.int .i64 k') := (by go_simp); have y6_1 : w6.cell? ⟨w.heap.size + 1 + 1, 1, none⟩ = some (.int .i64 n') := (by go_simp); have y6_2 : w6.cell? ⟨w.heap.size + 1 + 1, 2, none⟩ = some (.int .u64 f') := (by go_simp); have y6_3 : w6.cell? ⟨w.heap.size + 1 + 1, 3, none⟩ = some (.string t') := (by go_simp); have p6_0 : w6.cell? ⟨w2.heap.size, 0, none⟩ = some (.int .i64 (X2 (c : Int)).1.k) := (by go_simp); have p6_1 : w6.cell? ⟨w2.heap.size, 1, none⟩ = some (.int .i64 (X2 (c : Int)).1.n) := (by go_simp); have p6_2 : w6.cell? ⟨w2.heap.size, 2, none⟩ = some (.int .u64 (X2 (c : Int)).1.f) := (by go_simp); have p6_3 : w6.cell? ⟨w2.heap.size, 3, none⟩ = some (.string (X2 (c : Int)).1.t) := (by go_simp); have q6_0 : w6.cell? ⟨w3.heap.size, 0, none⟩ = some (.int .i64 u.k) := (by go_simp); have q6_1 : w6.cell? ⟨w3.heap.size, 1, none⟩ = some (.int .i64 u.n) := (by go_simp); have q6_2 : w6.cell? ⟨w3.heap.size, 2, none⟩ = some (.int .u64 u.f) := (by go_simp); have q6_3 : w6.cell? ⟨w3.heap.size, 3, none⟩ = some (.string u.t) := (by go_simp); clear hc6 hf6)) | (go_at_call 5; (fail_if_success (have := w6)); ((with_reducible refine (P1.out _ _ (ht.below (by repeat (first | (with_reducible exact HB.out) | (with_reducible exact Below.refl _ _) | (with_reducible refine below_al ?_ _) | (with_reducible refine below_drewN ?_ _) | (with_reducible refine Below.drew ?_) | (with_reducible refine below_via (by assumption) ?_) | (with_reducible refine below_sc ?_ ?_ _; · (first | (simp; done) | (simp; omega) | omega)))))).mono ?_); rintro e w6 ⟨rfl, hb6⟩; (try (replace hb6 := below_undrew hb6)); (try (replace hb6 := below_undrewN hb6)); obtain ⟨hc6, hf6⟩ := bcell hb6; (try (have hz0_6 : w.heap.size < w6.heap.size := (by have := hb6.size; (try simp at this); omega))); (try (have hz1_6 : w.heap.size + 1 < w6.heap.size := (by have := hb6.size; (try simp at this); omega))); (try (have hz2_6 : w.heap.size + 2 < w6.heap.size := (by have := hb6.size; (try simp at this); omega))); (try (have hz_1_6 : w1.heap.size < w6.heap.size := (by have := hb6.size; (try simp at this); omega))); (try (have hz_2_6 : w2.heap.size < w6.heap.size := (by have := hb6.size; (try simp at this); omega))); (try (have hz_3_6 : w3.heap.size < w6.heap.size := (by have := hb6.size; (try simp at this); omega))); (try (have hz_4_6 : w4.heap.size < w6.heap.size := (by have := hb6.size; (try simp at this); omega))); (try (have hz_5_6 : w5.heap.size < w6.heap.size := (by have := hb6.size; (try simp at this); omega))); have m6_0 : w6.frozen? ⟨w2.heap.size, 0, none⟩ = false := (by go_simp); have l6_0 : w6.frozen? ⟨w3.heap.size, 0, none⟩ = false := (by go_simp); have m6_1 : w6.frozen? ⟨w2.heap.size, 1, none⟩ = false := (by go_simp); have l6_1 : w6.frozen? ⟨w3.heap.size, 1, none⟩ = false := (by go_simp); have m6_2 : w6.frozen? ⟨w2.heap.size, 2, none⟩ = false := (by go_simp); have l6_2 : w6.frozen? ⟨w3.heap.size, 2, none⟩ = false := (by go_simp); have m6_3 : w6.frozen? ⟨w2.heap.size, 3, none⟩ = false := (by go_simp); have l6_3 : w6.frozen? ⟨w3.heap.size, 3, none⟩ = false := (by go_simp); have a6_0 : w6.cell? ⟨w.heap.size, 0, none⟩ = some (.int .i64 c0) := (by go_simp); have a6_1 : w6.cell? ⟨w.heap.size, 1, none⟩ = some (.int .i64 q) := (by go_simp); have x6_0 : w6.cell? ⟨w.heap.size + 1, 0, none⟩ = some (.int .i64 k) := (by go_simp); have x6_1 : w6.cell? ⟨w.heap.size + 1, 1, none⟩ = some (.int .i64 n) := (by go_simp); have x6_2 : w6.cell? ⟨w.heap.size + 1, 2, none⟩ = some (.int .u64 f) := (by go_simp); have x6_3 : w6.cell? ⟨w.heap.size + 1, 3, none⟩ = some (.string t) := (by go_simp); have y6_0 : w6.cell? ⟨w.heap.size + 1 + 1, 0, none⟩ = some (.int .i64 k') := (by go_simp); have y6_1 : w6.cell? ⟨w.heap.size + 1 + 1, 1, none⟩ = some (.int .i64 n') := (by go_simp); have y6_2 : w6.cell? ⟨w.heap.size + 1 + 1, 2, none⟩ = some (.int .u64 f') := (by go_simp); have y6_3 : w6.cell? ⟨w.heap.size + 1 + 1, 3, none⟩ = some (.string t') := (by go_simp); have p6_0 : w6.cell? ⟨w2.heap.size, 0, none⟩ = some (.int .i64 (X2 (c : Int)).1.k) := (by go_simp); have p6_1 : w6.cell? ⟨w2.heap.size, 1, none⟩ = some (.int .i64 (X2 (c : Int)).1.n) := (by go_simp); have p6_2 : w6.cell? ⟨w2.heap.size, 2, none⟩ = some (.int .u64 (X2 (c : Int)).1.f) := (by go_simp); have p6_3 : w6.cell? ⟨w2.heap.size, 3, none⟩ = some (.string (X2 (c : Int)).1.t) := (by go_simp); have q6_0 : w6.cell? ⟨w3.heap.size, 0, none⟩ = some (.int .i64 (X2 (c : Int)).1.k) := (by go_simp); have q6_1 : w6.cell? ⟨w3.heap.size, 1, none⟩ = some (.int .i64 (X2 (c : Int)).1.n) := (by go_simp); have q6_2 : w6.cell? ⟨w3.heap.size, 2, none⟩ = some (.int .u64 (X2 (c : Int)).1.f) := (by go_simp); have q6_3 : w6.cell? ⟨w3.heap.size, 3, none⟩ = some (.string (X2 (c : Int)).1.t) := (by go_simp); clear hc6 hf6)) | (go_at_call 6; (fail_if_success (have := w6)); ((with_reducible refine (P2.out _ _).mono ?_); rintro e w6 ⟨rfl, hb6⟩; (try (replace hb6 := below_undrew hb6)); (try (replace hb6 := below_undrewN hb6)); obtain ⟨hc6, hf6⟩ := bcell hb6; (try (have hz0_6 : w.heap.size < w6.heap.size := (by have := hb6.size; (try simp at this); omega))); (try (have hz1_6 : w.heap.size + 1 < w6.heap.size := (by have := hb6.size; (try simp at this); omega))); (try (have hz2_6 : w.heap.size + 2 < w6.heap.size := (by have := hb6.size; (try simp at this); omega))); (try (have hz_1_6 : w1.heap.size < w6.heap.size := (by have := hb6.size; (try simp at this); omega))); (try (have hz_2_6 : w2.heap.size < w6.heap.size := (by have := hb6.size; (try simp at this); omega))); (try (have hz_3_6 : w3.heap.size < w6.heap.size := (by have := hb6.size; (try simp at this); omega))); (try (have hz_4_6 : w4.heap.size < w6.heap.size := (by have := hb6.size; (try simp at this); omega))); (try (have hz_5_6 : w5.heap.size < w6.heap.size := (by have := hb6.size; (try simp at this); omega))); have p6_0 : w6.cell? ⟨w2.heap.size, 0, none⟩ = some (.int .i64 (X1 (c : Int)).1.k) := (by go_simp); have p6_1 : w6.cell? ⟨w2.heap.size, 1, none⟩ = some (.int .i64 (X1 (c : Int)).1.n) := (by go_simp); have p6_2 : w6.cell? ⟨w2.heap.size, 2, none⟩ = some (.int .u64 (X1 (c : Int)).1.f) := (by go_simp); have p6_3 : w6.cell? ⟨w2.heap.size, 3, none⟩ = some (.string (X1 (c : Int)).1.t) := (by go_simp); have q6_0 : w6.cell? ⟨w3.heap.size, 0, none⟩ = some (.int .i64 (X2 (c : Int)).1.k) := (by go_simp); have q6_1 : w6.cell? ⟨w3.heap.size, 1, none⟩ = some (.int .i64 (X2 (c : Int)).1.n) := (by go_simp); have q6_2 : w6.cell? ⟨w3.heap.size, 2, none⟩ = some (.int .u64 (X2 (c : Int)).1.f) := (by go_simp); have q6_3 : w6.cell? ⟨w3.heap.size, 3, none⟩ = some (.string (X2 (c : Int)).1.t) := (by go_simp))) | (go_at_call 7; (fail_if_success (have := w7)); ((with_reducible refine (P3.out _ _).mono ?_); rintro e w7 ⟨rfl, hb7⟩; (try (replace hb7 := below_undrew hb7)); (try (replace hb7 := below_undrewN hb7)); obtain ⟨hc7, hf7⟩ := bcell hb7; (try (have hz0_7 : w.heap.size < w7.heap.size := (by have := hb7.size; (try simp at this); omega))); (try (have hz1_7 : w.heap.size + 1 < w7.heap.size := (by have := hb7.size; (try simp at this); omega))); (try (have hz2_7 : w.heap.size + 2 < w7.heap.size := (by have := hb7.size; (try simp at this); omega))); (try (have hz_1_7 : w1.heap.size < w7.heap.size := (by have := hb7.size; (try simp at this); omega))); (try (have hz_2_7 : w2.heap.size < w7.heap.size := (by have := hb7.size; (try simp at this); omega))); (try (have hz_3_7 : w3.heap.size < w7.heap.size := (by have := hb7.size; (try simp at this); omega))); (try (have hz_4_7 : w4.heap.size < w7.heap.size := (by have := hb7.size; (try simp at this); omega))); (try (have hz_5_7 : w5.heap.size < w7.heap.size := (by have := hb7.size; (try simp at this); omega))); (try (have hz_6_7 : w6.heap.size < w7.heap.size := (by have := hb7.size; (try simp at this); omega))); have p7_0 : w7.cell? ⟨w2.heap.size, 0, none⟩ = some (.int .i64 v.k) := (by go_simp); have p7_1 : w7.cell? ⟨w2.heap.size, 1, none⟩ = some (.int .i64 v.n) := (by go_simp); have p7_2 : w7.cell? ⟨w2.heap.size, 2, none⟩ = some (.int .u64 v.f) := (by go_simp); have p7_3 : w7.cell? ⟨w2.heap.size, 3, none⟩ = some (.string v.t) := (by go_simp); have q7_0 : w7.cell? ⟨w3.heap.size, 0, none⟩ = some (.int .i64 u.k) := (by go_simp); have q7_1 : w7.cell? ⟨w3.heap.size, 1, none⟩ = some (.int .i64 u.n) := (by go_simp); have q7_2 : w7.cell? ⟨w3.heap.size, 2, none⟩ = some (.int .u64 u.f) := (by go_simp); have q7_3 : w7.cell? ⟨w3.heap.size, 3, none⟩ = some (.string u.t) := (by go_simp))) | (go_at_call 8; (fail_if_success (have := w7)); ((with_reducible refine (P4.out _ _).mono ?_); rintro e w7 ⟨rfl, hb7⟩; (try (replace hb7 := below_undrew hb7)); (try (replace hb7 := below_undrewN hb7)); obtain ⟨hc7, hf7⟩ := bcell hb7; (try (have hz0_7 : w.heap.size < w7.heap.size := (by have := hb7.size; (try simp at this); omega))); (try (have hz1_7 : w.heap.size + 1 < w7.heap.size := (by have := hb7.size; (try simp at this); omega))); (try (have hz2_7 : w.heap.size + 2 < w7.heap.size := (by have := hb7.size; (try simp at this); omega))); (try (have hz_1_7 : w1.heap.size < w7.heap.size := (by have := hb7.size; (try simp at this); omega))); (try (have hz_2_7 : w2.heap.size < w7.heap.size := (by have := hb7.size; (try simp at this); omega))); (try (have hz_3_7 : w3.heap.size < w7.heap.size := (by have := hb7.size; (try simp at this); omega))); (try (have hz_4_7 : w4.heap.size < w7.heap.size := (by have := hb7.size; (try simp at this); omega))); (try (have hz_5_7 : w5.heap.size < w7.heap.size := (by have := hb7.size; (try simp at this); omega))); (try (have hz_6_7 : w6.heap.size < w7.heap.size := (by have := hb7.size; (try simp at this); omega))); have m7_0 : w7.frozen? ⟨w2.heap.size, 0, none⟩ = false := (by go_simp); have l7_0 : w7.frozen? ⟨w3.heap.size, 0, none⟩ = false := (by go_simp); have m7_1 : w7.frozen? ⟨w2.heap.size, 1, none⟩ = false := (by go_simp); have l7_1 : w7.frozen? ⟨w3.heap.size, 1, none⟩ = false := (by go_simp); have m7_2 : w7.frozen? ⟨w2.heap.size, 2, none⟩ = false := (by go_simp); have l7_2 : w7.frozen? ⟨w3.heap.size, 2, none⟩ = false := (by go_simp); have m7_3 : w7.frozen? ⟨w2.heap.size, 3, none⟩ = false := (by go_simp); have l7_3 : w7.frozen? ⟨w3.heap.size, 3, none⟩ = false := (by go_simp); have a7_0 : w7.cell? ⟨w.heap.size, 0, none⟩ = some (.int .i64 c0) := (by go_simp); have a7_1 : w7.cell? ⟨w.heap.size, 1, none⟩ = some (.int .i64 q) := (by go_simp); have x7_0 : w7.cell? ⟨w.heap.size + 1, 0, none⟩ = some (.int .i64 k) := (by go_simp); have x7_1 : w7.cell? ⟨w.heap.size + 1, 1, none⟩ = some (.int .i64 n) := (by go_simp); have x7_2 : w7.cell? ⟨w.heap.size + 1, 2, none⟩ = some (.int .u64 f) := (by go_simp); have x7_3 : w7.cell? ⟨w.heap.size + 1, 3, none⟩ = some (.string t) := (by go_simp); have y7_0 : w7.cell? ⟨w.heap.size + 1 + 1, 0, none⟩ = some (.int .i64 k') := (by go_simp); have y7_1 : w7.cell? ⟨w.heap.size + 1 + 1, 1, none⟩ = some (.int .i64 n') := (by go_simp); have y7_2 : w7.cell? ⟨w.heap.size + 1 + 1, 2, none⟩ = some (.int .u64 f') := (by go_simp); have y7_3 : w7.cell? ⟨w.heap.size + 1 + 1, 3, none⟩ = some (.string t') := (by go_simp); have p7_0 : w7.cell? ⟨w2.heap.size, 0, none⟩ = some (.int .i64 (X2 (c : Int)).1.k) := (by go_simp); have p7_1 : w7.cell? ⟨w2.heap.size, 1, none⟩ = some (.int .i64 (X2 (c : Int)).1.n) := (by go_simp); have p7_2 : w7.cell? ⟨w2.heap.size, 2, none⟩ = some (.int .u64 (X2 (c : Int)).1.f) := (by go_simp); have p7_3 : w7.cell? ⟨w2.heap.size, 3, none⟩ = some (.string (X2 (c : Int)).1.t) := (by go_simp); have q7_0 : w7.cell? ⟨w3.heap.size, 0, none⟩ = some (.int .i64 u.k) := (by go_simp); have q7_1 : w7.cell? ⟨w3.heap.size, 1, none⟩ = some (.int .i64 u.n) := (by go_simp); have q7_2 : w7.cell? ⟨w3.heap.size, 2, none⟩ = some (.int .u64 u.f) := (by go_simp); have q7_3 : w7.cell? ⟨w3.heap.size, 3, none⟩ = some (.string u.t) := (by go_simp); clear hc7 hf7)) | (go_at_call 5; (fail_if_success (have := w7)); ((with_reducible refine (P1.out _ _ (ht.below (by repeat (first | (with_reducible exact HB.out) | (with_reducible exact Below.refl _ _) | (with_reducible refine below_al ?_ _) | (with_reducible refine below_drewN ?_ _) | (with_reducible refine Below.drew ?_) | (with_reducible refine below_via (by assumption) ?_) | (with_reducible refine below_sc ?_ ?_ _; · (first | (simp; done) | (simp; omega) | omega)))))).mono ?_); rintro e w7 ⟨rfl, hb7⟩; (try (replace hb7 := below_undrew hb7)); (try (replace hb7 := below_undrewN hb7)); obtain ⟨hc7, hf7⟩ := bcell hb7; (try (have hz0_7 : w.heap.size < w7.heap.size := (by have := hb7.size; (try simp at this); omega))); (try (have hz1_7 : w.heap.size + 1 < w7.heap.size := (by have := hb7.size; (try simp at this); omega))); (try (have hz2_7 : w.heap.size + 2 < w7.heap.size := (by have := hb7.size; (try simp at this); omega))); (try (have hz_1_7 : w1.heap.size < w7.heap.size := (by have := hb7.size; (try simp at this); omega))); (try (have hz_2_7 : w2.heap.size < w7.heap.size := (by have := hb7.size; (try simp at this); omega))); (try (have hz_3_7 : w3.heap.size < w7.heap.size := (by have := hb7.size; (try simp at this); omega))); (try (have hz_4_7 : w4.heap.size < w7.heap.size := (by have := hb7.size; (try simp at this); omega))); (try (have hz_5_7 : w5.heap.size < w7.heap.size := (by have := hb7.size; (try simp at this); omega))); (try (have hz_6_7 : w6.heap.size < w7.heap.size := (by have := hb7.size; (try simp at this); omega))); have m7_0 : w7.frozen? ⟨w2.heap.size, 0, none⟩ = false := (by go_simp); have l7_0 : w7.frozen? ⟨w3.heap.size, 0, none⟩ = false := (by go_simp); have m7_1 : w7.frozen? ⟨w2.heap.size, 1, none⟩ = false := (by go_simp); have l7_1 : w7.frozen? ⟨w3.heap.size, 1, none⟩ = false := (by go_simp); have m7_2 : w7.frozen? ⟨w2.heap.size, 2, none⟩ = false := (by go_simp); have l7_2 : w7.frozen? ⟨w3.heap.size, 2, none⟩ = false := (by go_simp); have m7_3 : w7.frozen? ⟨w2.heap.size, 3, none⟩ = false := (by go_simp); have l7_3 : w7.frozen? ⟨w3.heap.size, 3, none⟩ = false := (by go_simp); have a7_0 : w7.cell? ⟨w.heap.size, 0, none⟩ = some (.int .i64 c0) := (by go_simp); have a7_1 : w7.cell? ⟨w.heap.size, 1, none⟩ = some (.int .i64 q) := (by go_simp); have x7_0 : w7.cell? ⟨w.heap.size + 1, 0, none⟩ = some (.int .i64 k) := (by go_simp); have x7_1 : w7.cell? ⟨w.heap.size + 1, 1, none⟩ = some (.int .i64 n) := (by go_simp); have x7_2 : w7.cell? ⟨w.heap.size + 1, 2, none⟩ = some (.int .u64 f) := (by go_simp); have x7_3 : w7.cell? ⟨w.heap.size + 1, 3, none⟩ = some (.string t) := (by go_simp); have y7_0 : w7.cell? ⟨w.heap.size + 1 + 1, 0, none⟩ = some (.int .i64 k') := (by go_simp); have y7_1 : w7.cell? ⟨w.heap.size + 1 + 1, 1, none⟩ = some (.int .i64 n') := (by go_simp); have y7_2 : w7.cell? ⟨w.heap.size + 1 + 1, 2, none⟩ = some (.int .u64 f') := (by go_simp); have y7_3 : w7.cell? ⟨w.heap.size + 1 + 1, 3, none⟩ = some (.string t') := (by go_simp); have p7_0 : w7.cell? ⟨w2.heap.size, 0, none⟩ = some (.int .i64 (X2 (c : Int)).1.k) := (by go_simp); have p7_1 : w7.cell? ⟨w2.heap.size, 1, none⟩ = some (.int .i64 (X2 (c : Int)).1.n) := (by go_simp); have p7_2 : w7.cell? ⟨w2.heap.size, 2, none⟩ = some (.int .u64 (X2 (c : Int)).1.f) := (by go_simp); have p7_3 : w7.cell? ⟨w2.heap.size, 3, none⟩ = some (.string (X2 (c : Int)).1.t) := (by go_simp); have q7_0 : w7.cell? ⟨w3.heap.size, 0, none⟩ = some (.int .i64 (X2 (c : Int)).1.k) := (by go_simp); have q7_1 : w7.cell? ⟨w3.heap.size, 1, none⟩ = some (.int .i64 (X2 (c : Int)).1.n) := (by go_simp); have q7_2 : w7.cell? ⟨w3.heap.size, 2, none⟩ = some (.int .u64 (X2 (c : Int)).1.f) := (by go_simp); have q7_3 : w7.cell? ⟨w3.heap.size, 3, none⟩ = some (.string (X2 (c : Int)).1.t) := (by go_simp); clear hc7 hf7)) | (go_at_call 6; (fail_if_success (have := w7)); ((with_reducible refine (P2.out _ _).mono ?_); rintro e w7 ⟨rfl, hb7⟩; (try (replace hb7 := below_undrew hb7)); (try (replace hb7 := below_undrewN hb7)); obtain ⟨hc7, hf7⟩ := bcell hb7; (try (have hz0_7 : w.heap.size < w7.heap.size := (by have := hb7.size; (try simp at this); omega))); (try (have hz1_7 : w.heap.size + 1 < w7.heap.size := (by have := hb7.size; (try simp at this); omega))); (try (have hz2_7 : w.heap.size + 2 < w7.heap.size := (by have := hb7.size; (try simp at this); omega))); (try (have hz_1_7 : w1.heap.size < w7.heap.size := (by have := hb7.size; (try simp at this); omega))); (try (have hz_2_7 : w2.heap.size < w7.heap.size := (by have := hb7.size; (try simp at this); omega))); (try (have hz_3_7 : w3.heap.size < w7.heap.size := (by have := hb7.size; (try simp at this); omega))); (try (have hz_4_7 : w4.heap.size < w7.heap.size := (by have := hb7.size; (try simp at this); omega))); (try (have hz_5_7 : w5.heap.size < w7.heap.size := (by have := hb7.size; (try simp at this); omega))); (try (have hz_6_7 : w6.heap.size < w7.heap.size := (by have := hb7.size; (try simp at this); omega))); have p7_0 : w7.cell? ⟨w2.heap.size, 0, none⟩ = some (.int .i64 (X1 (c : Int)).1.k) := (by go_simp); have p7_1 : w7.cell? ⟨w2.heap.size, 1, none⟩ = some (.int .i64 (X1 (c : Int)).1.n) := (by go_simp); have p7_2 : w7.cell? ⟨w2.heap.size, 2, none⟩ = some (.int .u64 (X1 (c : Int)).1.f) := (by go_simp); have p7_3 : w7.cell? ⟨w2.heap.size, 3, none⟩ = some (.string (X1 (c : Int)).1.t) := (by go_simp); have q7_0 : w7.cell? ⟨w3.heap.size, 0, none⟩ = some (.int .i64 (X2 (c : Int)).1.k) := (by go_simp); have q7_1 : w7.cell? ⟨w3.heap.size, 1, none⟩ = some (.int .i64 (X2 (c : Int)).1.n) := (by go_simp); have q7_2 : w7.cell? ⟨w3.heap.size, 2, none⟩ = some (.int .u64 (X2 (c : Int)).1.f) := (by go_simp); have q7_3 : w7.cell? ⟨w3.heap.size, 3, none⟩ = some (.string (X2 (c : Int)).1.t) := (by go_simp))))
      go_roundw
      case rel =>
        refine ⟨c + 1, by omega, by go_num, Lib.hid (by repeat (first | (with_reducible exact HB.out) | (with_reducible exact Below.refl _ _) | (with_reducible refine below_al ?_ _) | (with_reducible refine below_drewN ?_ _) | (with_reducible refine Below.drew ?_) | (with_reducible refine below_via (by assumption) ?_) | (with_reducible refine below_sc ?_ ?_ _; · (first | (simp; done) | (simp; omega) | omega)))), by simp; omega, by simp; omega, ⟨by go_simp, by go_simp⟩, ⟨by go_simp, by go_simp, by go_simp, by go_simp⟩, ⟨by go_simp, by go_simp, by go_simp, by go_simp⟩, ⟨⟨(X1 c).1, by go_simp, by go_simp, by go_simp, by go_simp⟩, by go_simp, by go_simp, by go_simp, by go_simp⟩, ⟨⟨(X1 c).1, by go_simp, by go_simp, by go_simp, by go_simp⟩, by go_simp, by go_simp, by go_simp, by go_simp⟩⟩
      case measure => simp [intOf]; omega
    · go_wp2_with (first | (go_at_call 7; (fail_if_success (have := w1)); ((with_reducible refine (P3.out _ _).mono ?_); rintro e w1 ⟨rfl, hb1⟩; (try (replace hb1 := below_undrew hb1)); (try (replace hb1 := below_undrewN hb1)); obtain ⟨hc1, hf1⟩ := bcell hb1; (try (have hz0_1 : w.heap.size < w1.heap.size := (by have := hb1.size; (try simp at this); omega))); (try (have hz1_1 : w.heap.size + 1 < w1.heap.size := (by have := hb1.size; (try simp at this); omega))); (try (have hz2_1 : w.heap.size + 2 < w1.heap.size := (by have := hb1.size; (try simp at this); omega))))) | (go_at_call 8; (fail_if_success (have := w1)); ((with_reducible refine (P4.out _ _).mono ?_); rintro e w1 ⟨rfl, hb1⟩; (try (replace hb1 := below_undrew hb1)); (try (replace hb1 := below_undrewN hb1)); obtain ⟨hc1, hf1⟩ := bcell hb1; (try (have hz0_1 : w.heap.size < w1.heap.size := (by have := hb1.size; (try simp at this); omega))); (try (have hz1_1 : w.heap.size + 1 < w1.heap.size := (by have := hb1.size; (try simp at this); omega))); (try (have hz2_1 : w.heap.size + 2 < w1.heap.size := (by have := hb1.size; (try simp at this); omega))))) | (go_at_call 7; (fail_if_success (have := w2)); ((with_reducible refine (P3.out _ _).mono ?_); rintro e w2 ⟨rfl, hb2⟩; (try (replace hb2 := below_undrew hb2)); (try (replace hb2 := below_undrewN hb2)); obtain ⟨hc2, hf2⟩ := bcell hb2; (try (have hz0_2 : w.heap.size < w2.heap.size := (by have := hb2.size; (try simp at this); omega))); (try (have hz1_2 : w.heap.size + 1 < w2.heap.size := (by have := hb2.size; (try simp at this); omega))); (try (have hz2_2 : w.heap.size + 2 < w2.heap.size := (by have := hb2.size; (try simp at this); omega))); (try (have hz_1_2 : w1.heap.size < w2.heap.size := (by have := hb2.size; (try simp at this); omega))))) | (go_at_call 8; (fail_if_success (have := w2)); ((with_reducible refine (P4.out _ _).mono ?_); rintro e w2 ⟨rfl, hb2⟩; (try (replace hb2 := below_undrew hb2)); (try (replace hb2 := below_undrewN hb2)); obtain ⟨hc2, hf2⟩ := bcell hb2; (try (have hz0_2 : w.heap.size < w2.heap.size := (by have := hb2.size; (try simp at this); omega))); (try (have hz1_2 : w.heap.size + 1 < w2.heap.size := (by have := hb2.size; (try simp at this); omega))); (try (have hz2_2 : w.heap.size + 2 < w2.heap.size := (by have := hb2.size; (try simp at this); omega))); (try (have hz_1_2 : w1.heap.size < w2.heap.size := (by have := hb2.size; (try simp at this); omega))))) | (go_at_call 7; (fail_if_success (have := w3)); ((with_reducible refine (P3.out _ _).mono ?_); rintro e w3 ⟨rfl, hb3⟩; (try (replace hb3 := below_undrew hb3)); (try (replace hb3 := below_undrewN hb3)); obtain ⟨hc3, hf3⟩ := bcell hb3; (try (have hz0_3 : w.heap.size < w3.heap.size := (by have := hb3.size; (try simp at this); omega))); (try (have hz1_3 : w.heap.size + 1 < w3.heap.size := (by have := hb3.size; (try simp at this); omega))); (try (have hz2_3 : w.heap.size + 2 < w3.heap.size := (by have := hb3.size; (try simp at this); omega))); (try (have hz_1_3 : w1.heap.size < w3.heap.size := (by have := hb3.size; (try simp at this); omega))); (try (have hz_2_3 : w2.heap.size < w3.heap.size := (by have := hb3.size; (try simp at this); omega))))) | (go_at_call 8; (fail_if_success (have := w3)); ((with_reducible refine (P4.out _ _).mono ?_); rintro e w3 ⟨rfl, hb3⟩; (try (replace hb3 := below_undrew hb3)); (try (replace hb3 := below_undrewN hb3)); obtain ⟨hc3, hf3⟩ := bcell hb3; (try (have hz0_3 : w.heap.size < w3.heap.size := (by have := hb3.size; (try simp at this); omega))); (try (have hz1_3 : w.heap.size + 1 < w3.heap.size := (by have := hb3.size; (try simp at this); omega))); (try (have hz2_3 : w.heap.size + 2 < w3.heap.size := (by have := hb3.size; (try simp at this); omega))); (try (have hz_1_3 : w1.heap.size < w3.heap.size := (by have := hb3.size; (try simp at this); omega))); (try (have hz_2_3 : w2.heap.size < w3.heap.size := (by have := hb3.size; (try simp at this); omega))))) | (go_at_call 7; (fail_if_success (have := w4)); ((with_reducible refine (P3.out _ _).mono ?_); rintro e w4 ⟨rfl, hb4⟩; (try (replace hb4 := below_undrew hb4)); (try (replace hb4 := below_undrewN hb4)); obtain ⟨hc4, hf4⟩ := bcell hb4; (try (have hz0_4 : w.heap.size < w4.heap.size := (by have := hb4.size; (try simp at this); omega))); (try (have hz1_4 : w.heap.size + 1 < w4.heap.size := (by have := hb4.size; (try simp at this); omega))); (try (have hz2_4 : w.heap.size + 2 < w4.heap.size := (by have := hb4.size; (try simp at this); omega))); (try (have hz_1_4 : w1.heap.size < w4.heap.size := (by have := hb4.size; (try simp at this); omega))); (try (have hz_2_4 : w2.heap.size < w4.heap.size := (by have := hb4.size; (try simp at this); omega))); (try (have hz_3_4 : w3.heap.size < w4.heap.size := (by have := hb4.size; (try simp at this); omega))))) | (go_at_call 8; (fail_if_success (have := w4)); ((with_reducible refine (P4.out _ _).mono ?_); rintro e w4 ⟨rfl, hb4⟩; (try (replace hb4 := below_undrew hb4)); (try (replace hb4 := below_undrewN hb4)); obtain ⟨hc4, hf4⟩ := bcell hb4; (try (have hz0_4 : w.heap.size < w4.heap.size := (by have := hb4.size; (try simp at this); omega))); (try (have hz1_4 : w.heap.size + 1 < w4.heap.size := (by have := hb4.size; (try simp at this); omega))); (try (have hz2_4 : w.heap.size + 2 < w4.heap.size := (by have := hb4.size; (try simp at this); omega))); (try (have hz_1_4 : w1.heap.size < w4.heap.size := (by have := hb4.size; (try simp at this); omega))); (try (have hz_2_4 : w2.heap.size < w4.heap.size := (by have := hb4.size; (try simp at this); omega))); (try (have hz_3_4 : w3.heap.size < w4.heap.size := (by have := hb4.size; (try simp at this); omega))))) | (go_at_call 7; (fail_if_success (have := w5)); ((with_reducible refine (P3.out _ _).mono ?_); rintro e w5 ⟨rfl, hb5⟩; (try (replace hb5 := below_undrew hb5)); (try (replace hb5 := below_undrewN hb5)); obtain ⟨hc5, hf5⟩ := bcell hb5; (try (have hz0_5 : w.heap.size < w5.heap.size := (by have := hb5.size; (try simp at this); omega))); (try (have hz1_5 : w.heap.size + 1 < w5.heap.size := (by have := hb5.size; (try simp at this); omega))); (try (have hz2_5 : w.heap.size + 2 < w5.heap.size := (by have := hb5.size; (try simp at this); omega))); (try (have hz_1_5 : w1.heap.size < w5.heap.size := (by have := hb5.size; (try simp at this); omega))); (try (have hz_2_5 : w2.heap.size < w5.heap.size := (by have := hb5.size; (try simp at this); omega))); (try (have hz_3_5 : w3.heap.size < w5.heap.size := (by have := hb5.size; (try simp at this); omega))); (try (have hz_4_5 : w4.heap.size < w5.heap.size := (by have := hb5.size; (try simp at this); omega))))) | (go_at_call 8; (fail_if_success (have := w5)); ((with_reducible refine (P4.out _ _).mono ?_); rintro e w5 ⟨rfl, hb5⟩; (try (replace hb5 := below_undrew hb5)); (try (replace hb5 := below_undrewN hb5)); obtain ⟨hc5, hf5⟩ := bcell hb5; (try (have hz0_5 : w.heap.size < w5.heap.size := (by have := hb5.size; (try simp at this); omega))); (try (have hz1_5 : w.heap.size + 1 < w5.heap.size := (by have := hb5.size; (try simp at this); omega))); (try (have hz2_5 : w.heap.size + 2 < w5.heap.size := (by have := hb5.size; (try simp at this); omega))); (try (have hz_1_5 : w1.heap.size < w5.heap.size := (by have := hb5.size; (try simp at this); omega))); (try (have hz_2_5 : w2.heap.size < w5.heap.size := (by have := hb5.size; (try simp at this); omega))); (try (have hz_3_5 : w3.heap.size < w5.heap.size := (by have := hb5.size; (try simp at this); omega))); (try (have hz_4_5 : w4.heap.size < w5.heap.size := (by have := hb5.size; (try simp at this); omega))))))
      go_ret
      exact ⟨rfl, (by repeat (first | (with_reducible exact HB.out) | (with_reducible exact Below.refl _ _) | (with_reducible refine below_al ?_ _) | (with_reducible refine below_drewN ?_ _) | (with_reducible refine Below.drew ?_) | (with_reducible refine below_via (by assumption) ?_) | (with_reducible refine below_sc ?_ ?_ _; · (first | (simp; done) | (simp; omega) | omega))))⟩

end Go.Proofs.YtjnkkjeneomckaaGreatDoor

namespace Go.Proofs.YtjnkkjeneomckaaGreatDoor
set_option linter.unusedVariables false
set_option linter.unusedSimpArgs false
open Go.RowKit

theorem walkValSteps (c0 q k n f : Int) (t : ByteArray) (k' n' f' : Int) (t' : ByteArray) (w0 : (Lit.int .i64 c0).wf = true) (w1 : (Lit.int .i64 q).wf = true)
    (wk : (Lit.int .i64 k).wf = true) (wn : (Lit.int .i64 n).wf = true) (wf : (Lit.int .u64 f).wf = true) (wt : t.size ≤ maxLen) (wk' : (Lit.int .i64 k').wf = true) (wn' : (Lit.int .i64 n').wf = true) (wf' : (Lit.int .u64 f').wf = true) (wt' : t'.size ≤ maxLen) (w : World) (ht : Tab w) :
    Calls Tryz.prog 3 #[.agg #[.int .i64 c0, .int .i64 q], .agg #[.int .i64 k, .int .i64 n, .int .u64 f, .string t], .agg #[.int .i64 k', .int .i64 n', .int .u64 f', .string t']] w fun e w' => e = .returned (.bool true) ∧ Below w.heap.size w w' := by
  have i64 : ∀ {n : Int}, (Lit.int .i64 n).wf = true → I64 n := fun h => by simp only [Lit.wf, Bool.and_eq_true, decide_eq_true_eq] at h; exact h
  have u64 : ∀ {n : Int}, (Lit.int .u64 n).wf = true → U64 n := fun {n} h => by
    simp only [Lit.wf, Bool.and_eq_true, decide_eq_true_eq] at h
    have h1 : (0 : Int) ≤ n := h.1
    have h2 : n ≤ 18446744073709551615 := h.2
    exact ⟨h1, by omega⟩
  exact steps_w c0 q k n f t k' n' f' t' (fun c => resV (oneS c q k n f t)) (fun c => resV (twoS c k n f t k' n' f' t')) w ht
    (fun c w ht => oneD_c c q k n f t w (i64 wn) ht) (fun c w => rOne_c c q k n f t w (i64 wn) (u64 wf)) (fun c w => twoD_c c k n f t k' n' f' t' w (i64 wn) (i64 wn')) (fun c w => rTwo_c c k n f t k' n' f' t' w (i64 wn) (i64 wn') (u64 wf) (u64 wf'))

end Go.Proofs.YtjnkkjeneomckaaGreatDoor
