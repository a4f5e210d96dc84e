/- Plain laws of the steps: whatever a step answers is a value. No program in sight. -/
import Derived.Test.YtjnkkjeneomckaaDoorV8
import Derived.Lib.ItoaLen
namespace Go.Proofs.YtjnkkjeneomckaaDoor
set_option linter.unusedVariables false
set_option linter.unusedSimpArgs false
open Go.RowKit

def sV (x : V) : Bool := soundV x.k x.n x.f x.t

theorem sound_null : soundV 0 0 0 ⟨#[]⟩ = true := by kernel_rfl
theorem sound_bool (b : Bool) : soundV 1 (b2i b) 0 ⟨#[]⟩ = true := by cases b <;> kernel_rfl
theorem sound_int (n : Int) : soundV 2 n 0 ⟨#[]⟩ = true := by simp [soundV, eqV]
theorem sound_float (b : Int) : soundV 3 0 (plainI b) ⟨#[]⟩ = true := by simp [soundV, eqV, plain_idem]
theorem sound_txt (t : ByteArray) (h : t.size ≤ 4096) : soundV 4 0 0 t = true := by simp [soundV, eqV, h]

theorem sound_cases {k n f : Int} {t : ByteArray} (h : soundV k n f t = true) :
    (k = 0 ∧ n = 0 ∧ f = 0 ∧ t = ⟨#[]⟩) ∨ (k = 1 ∧ (n = 0 ∨ n = 1) ∧ f = 0 ∧ t = ⟨#[]⟩) ∨ (k = 2 ∧ f = 0 ∧ t = ⟨#[]⟩) ∨ (k = 3 ∧ n = 0 ∧ plainI f = f ∧ t = ⟨#[]⟩) ∨ (k = 4 ∧ n = 0 ∧ f = 0 ∧ t.size ≤ 4096) := by
  unfold soundV at h
  split at h
  · rename_i h0; rw [eqV_iff] at h; left; exact ⟨h.1, h.2.1, h.2.2.1, h.2.2.2⟩
  · split at h
    · simp only [Bool.and_eq_true, eqV_iff, Bool.or_eq_true, beq_iff_eq] at h; right; left; exact ⟨h.1.1, h.2, h.1.2.2.1, h.1.2.2.2⟩
    · split at h
      · rw [eqV_iff] at h; right; right; left; exact ⟨h.1, h.2.2.1, h.2.2.2⟩
      · split at h
        · simp only [Bool.and_eq_true, eqV_iff, beq_iff_eq] at h; right; right; right; left; exact ⟨h.1.1, h.1.2.1, h.2, h.1.2.2.2⟩
        · split at h
          · simp only [Bool.and_eq_true, eqV_iff, decide_eq_true_eq] at h; right; right; right; right; exact ⟨h.1.1, h.1.2.1, h.1.2.2.1, h.2⟩
          · cases h

theorem intF_I64 {x : Nat} {m : Int} (h : intF x = some m) : I64 m := by
  unfold intF at h
  split at h
  · split at h
    · cases h; assumption
    · cases h
  · cases h

/-- an answer is a value, or one of these refusals -/
def Cl (l : List Int) (r : Except Int V) : Prop := match r with | .ok x => sV x = true ∧ I64 x.n | .error c => c ∈ l

theorem fRes_plain (r : Option Nat) : plainI (fRes r) = fRes r := by
  cases r with
  | none => decide +kernel
  | some x => exact plain_idem
theorem fitI_cases (x : Int) : (fitI x = .ok x ∧ I64 x) ∨ fitI x = .error 11 := by
  unfold fitI; split
  · left; exact ⟨rfl, by assumption⟩
  · right; rfl
theorem i64_0 : I64 0 := ⟨by decide, by decide⟩
theorem i64_b (b : Bool) : I64 (b2i b) := by cases b <;> exact ⟨by decide, by decide⟩

theorem castS_cl (k n f : Int) (t : ByteArray) (kind : Int) (hn : I64 n) (h : soundV k n f t = true) : Cl [1, 11] (castS k n f t kind) := by
  unfold castS
  split
  · exact ⟨h, hn⟩
  · split
    · exact ⟨sound_float _, i64_0⟩
    · split
      · split
        · rename_i m hm; exact ⟨sound_int _, intF_I64 hm⟩
        · simp [Cl]
      · split
        · refine ⟨sound_txt _ ?_, i64_0⟩
          rw [size_mk]; have := Lib.itoa_length_le n hn.1 hn.2; omega
        · split
          · refine ⟨sound_txt _ ?_, i64_0⟩
            rw [size_mk]; cases (n == 1) <;> decide
          · simp [Cl]

theorem negS_cl (k n f : Int) (hn : I64 n) : Cl [1, 11] (negS k n f) := by
  obtain ⟨h1, h2⟩ := hn
  unfold negS
  split
  · split
    · simp [Cl]
    · rename_i h; simp at h; exact ⟨sound_int _, by show -9223372036854775808 ≤ -n; omega, by show -n ≤ 9223372036854775807; omega⟩
  · split
    · exact ⟨sound_float _, i64_0⟩
    · simp [Cl]

theorem oneS_cl (code kind k n f : Int) (t : ByteArray) (hn : I64 n) : Cl [1, 11] (oneS code kind k n f t) := by
  unfold oneS
  split
  · simp [Cl]
  · rename_i h; simp only [Bool.not_eq_true', Bool.not_eq_false'] at h
    have h : soundV k n f t = true := by simpa using h
    split
    · exact ⟨sound_bool _, i64_b _⟩
    · split
      · simp [Cl]
      · split
        · exact ⟨h, hn⟩
        · split
          · exact castS_cl k n f t kind hn h
          · split
            · exact negS_cl k n f hn
            · split
              · exact ⟨sound_bool _, i64_b _⟩
              · simp [Cl]

theorem logicS_cl (code k n f : Int) (t : ByteArray) (k' n' f' : Int) (t' : ByteArray) : Cl [1, 11, 10, 12] (logicS code k n f t k' n' f' t') := by
  unfold logicS
  split
  · simp [Cl]
  · split
    · exact ⟨sound_bool _, i64_b _⟩
    · split
      · exact ⟨sound_null, i64_0⟩
      · exact ⟨sound_bool _, i64_b _⟩

theorem tmod_I64 {a b : Int} (ha : I64 a) (h0 : b ≠ 0) : I64 (a.tmod b) := by
  obtain ⟨a1, a2⟩ := ha
  have h := Int.natAbs_tmod a b
  have h2 : a.natAbs % b.natAbs ≤ a.natAbs := Nat.mod_le _ _
  have h3 : 0 ≤ a → 0 ≤ a.tmod b := fun h => Int.tmod_nonneg b h
  constructor
  · omega
  · by_cases h4 : 0 ≤ a
    · omega
    · have : a.tmod b ≤ 0 := by
        have h5 := Int.tmod_nonneg (a := -a) b (by omega)
        rw [Int.neg_tmod] at h5; omega
      omega

theorem intsS_cl (code a b : Int) (ha : I64 a) : Cl [1, 11, 10, 12] (addI (intsS code a b)) := by
  have fit : ∀ x, Cl [1, 11, 10, 12] (addI (fitI x)) := fun x => by
    rcases fitI_cases x with ⟨h, hx⟩ | h
    · rw [h]; exact ⟨sound_int _, hx⟩
    · rw [h]; simp [Cl, addI]
  unfold intsS
  split
  · exact fit _
  · split
    · exact fit _
    · split
      · exact fit _
      · split
        · simp [Cl, addI]
        · rename_i hb; simp at hb
          split
          · exact ⟨sound_int _, tmod_I64 ha hb⟩
          · exact fit _

theorem twoS_cl (code k n f : Int) (t : ByteArray) (k' n' f' : Int) (t' : ByteArray) (hn : I64 n) (hn' : I64 n') : Cl [1, 11, 10, 12] (twoS code k n f t k' n' f' t') := by
  unfold twoS
  split
  · simp [Cl]
  · rename_i h
    have h : soundV k n f t = true ∧ soundV k' n' f' t' = true := by
      simp only [Bool.not_eq_true', Bool.and_eq_true, Bool.not_eq_false] at h
      exact ⟨h.1.1.1, h.1.1.2⟩
    split
    · exact logicS_cl ..
    · split
      · simp [Cl]
      · split
        · split
          · exact ⟨h.2, hn'⟩
          · exact ⟨h.1, hn⟩
        · split
          · simp [Cl]
          · split
            · exact ⟨sound_null, i64_0⟩
            · split
              · exact ⟨sound_bool _, i64_b _⟩
              · split
                · unfold textS; split
                  · exact ⟨sound_txt _ (by assumption), i64_0⟩
                  · simp [Cl]
                · split
                  · exact ⟨by simp [sV, soundV, eqV, floatS, fRes_plain], i64_0⟩
                  · exact intsS_cl code n n' hn

/-- what a door answers, told by its parts -/
theorem resV_cl {l : List Int} {r : Except Int V} (h : Cl l r) (hl : 0 ∉ l) : soundV (resV r).1.k (resV r).1.n (resV r).1.f (resV r).1.t = true ∧ I64 (resV r).1.n ∧ ((resV r).2 = 0 ∨ (resV r).2 ∈ l ∧ (resV r).1 = ⟨0, 0, 0, ⟨#[]⟩⟩) := by
  cases r with
  | ok x => exact ⟨h.1, h.2, .inl rfl⟩
  | error c => exact ⟨sound_null, i64_0, .inr ⟨h, rfl⟩⟩

end Go.Proofs.YtjnkkjeneomckaaDoor
