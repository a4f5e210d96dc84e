/- Plain: which texts are names, and how a name is written. -/
import Derived.Test.YtlaafpbhhnehgaaDoorL14
import Derived.Laws.RangeAny
namespace Go.Proofs.YtlaafpbhhnehgaaDoor
set_option linter.unusedVariables false
set_option linter.unusedSimpArgs false
open Go.RowKit Go.Lib

theorem idx_neg (p : Nat → Bool) (s : ByteArray) (hp : ∀ r, 128 ≤ r → p r = true) : ∀ f pos, s.size ≤ pos + f →
    (decide (idxFuncFrom p true s f pos < 0) = (s.data.toList.drop pos).all (fun b => decide (b.toNat < 128) && !p b.toNat)) := by
  intro f
  induction f with
  | zero =>
    intro pos h
    rw [List.drop_of_length_le (by rw [← Lib.size_eq]; omega)]; rfl
  | succ f ih =>
    intro pos h
    by_cases hps : pos < s.size
    · rw [get_lt hps, List.all_cons]
      unfold idxFuncFrom
      rw [if_pos hps]
      by_cases hb : (s[pos]'hps).toNat < 128
      · rw [decode_ascii s pos hps hb]
        simp only [hb, decide_true, Bool.true_and]
        cases hpb : p (s[pos]'hps).toNat
        · simp only [Bool.false_eq_true, if_false, Bool.not_false, Bool.true_and]
          exact ih (pos + 1) (by omega)
        · simp only [if_true, Bool.not_true, Bool.false_and]
          exact decide_eq_false (by omega)
      · have hh := decode_high s pos hps (by omega)
        rw [hp _ hh.1]
        simp only [if_true, hb, decide_false, Bool.false_and]
        exact decide_eq_false (by omega)
    · rw [idxFuncFrom_end p true s (f + 1) pos hps, List.drop_of_length_le (by rw [← Lib.size_eq]; omega)]; rfl

theorem idx_asc (p : Nat → Bool) (s : ByteArray) : ∀ f pos, s.size ≤ pos + f → (∀ b ∈ s.data.toList.drop pos, b.toNat < 128) →
    (decide (0 ≤ idxFuncFrom p true s f pos) = (s.data.toList.drop pos).any (fun b => p b.toNat)) := by
  intro f
  induction f with
  | zero =>
    intro pos h _
    rw [List.drop_of_length_le (by rw [← Lib.size_eq]; omega)]; rfl
  | succ f ih =>
    intro pos h ha
    by_cases hps : pos < s.size
    · rw [get_lt hps] at ha ⊢
      rw [List.any_cons]
      unfold idxFuncFrom
      rw [if_pos hps]
      have hb := ha _ (List.mem_cons_self ..)
      rw [decode_ascii s pos hps hb]
      cases hpb : p (s[pos]'hps).toNat
      · simp only [Bool.false_eq_true, if_false, Bool.false_or]
        exact ih (pos + 1) (by omega) (fun b hb => ha b (List.mem_cons_of_mem _ hb))
      · simp only [if_true, Bool.true_or]
        exact decide_eq_true (by omega)
    · rw [idxFuncFrom_end p true s (f + 1) pos hps, List.drop_of_length_le (by rw [← Lib.size_eq]; omega)]; rfl

/-- a letter that names may have -/
def okB (b : UInt8) : Bool := decide (32 ≤ b.toNat) && decide (b.toNat ≤ 126)
/-- whether a text is a name -/
def nameP (l : List UInt8) : Bool := decide (1 ≤ l.length) && decide (l.length ≤ 32) && (l.head? != some 64) && l.all okB
/-- a letter that a bare name may have -/
def bareB (b : UInt8) : Bool := isInn b.toNat && !(decide (65 ≤ b.toNat) && decide (b.toNat ≤ 90))
/-- whether a name is written bare -/
def bareP (l : List UInt8) : Bool := (match l with | [] => false | c :: _ => !isDig c.toNat) && l.all bareB && !isWd (toUpperA l)
/-- how a name is written -/
def nameW (l : List UInt8) : List UInt8 × Int := if nameP l then (if bareP l then l else quoteL 34 l, 0) else ([], 23)

theorem odd1_ok (b : UInt8) : (decide (b.toNat < 128) && !odd1 b.toNat) = okB b := by
  have := b.toNat_lt
  unfold odd1 okB
  rw [Bool.eq_iff_iff]
  simp only [Bool.and_eq_true, decide_eq_true_eq, Bool.not_eq_true', Bool.or_eq_false_iff, decide_eq_false_iff_not]
  omega

theorem nameL_eq (l : List UInt8) : nameL l = nameP l := by
  have hd : (⟨l.toArray⟩ : ByteArray).data.toList = l := rfl
  have hs : (⟨l.toArray⟩ : ByteArray).size = l.length := by rw [Lib.size_eq]
  have hi : decide (idxFunc odd1 true ⟨l.toArray⟩ < 0) = l.all okB := by
    unfold idxFunc
    rw [idx_neg odd1 ⟨l.toArray⟩ (fun r hr => by unfold odd1; simp; omega) _ 0 (by omega), hd, List.drop_zero]
    congr 1; funext b; exact odd1_ok b
  unfold nameL nameB nameP
  match l with
  | [] => rfl
  | c :: t =>
    have h0 : 0 < (⟨(c :: t).toArray⟩ : ByteArray).size := by rw [hs]; simp
    rw [dif_pos h0, hi, hs]
    have hg : (⟨(c :: t).toArray⟩ : ByteArray)[0]'h0 = c := rfl
    rw [hg]
    have h64 : (((c.toNat : Int)) != 64) = (c != 64) := by
      rw [Bool.eq_iff_iff]
      simp only [bne_iff_ne, ne_eq, ← UInt8.toNat_inj]
      show ¬ ((c.toNat : Int) = 64) ↔ ¬ c.toNat = 64
      omega
    rw [h64]
    have hh : ((c :: t).head? != some 64) = (c != 64) := by
      rw [Bool.eq_iff_iff]; simp
    rw [hh]
    have h1 : decide (1 ≤ (c :: t).length) = true := by simp
    have h2 : decide (((c :: t).length : Int) ≤ 32) = decide ((c :: t).length ≤ 32) := by
      rw [Bool.eq_iff_iff]; simp only [decide_eq_true_eq]; omega
    rw [h1, h2, Bool.true_and, Bool.and_comm (c != 64)]

theorem nameP_ascii {l : List UInt8} (h : nameP l = true) : ∀ b ∈ l, b.toNat < 128 := by
  intro b hb
  simp only [nameP, Bool.and_eq_true] at h
  have := List.all_eq_true.1 h.2 b hb
  simp only [okB, Bool.and_eq_true, decide_eq_true_eq] at this
  omega

theorem odd2_bare (b : UInt8) (h : b.toNat < 128) : odd2 b.toNat = !bareB b := by
  unfold odd2 bareB
  have e : ((b.toNat : Int)) % 256 = (b.toNat : Int) := by omega
  rw [e, Bool.not_and, Bool.not_not]
  congr 1
  rw [Bool.eq_iff_iff]; simp only [Bool.and_eq_true, decide_eq_true_eq]; omega

theorem odd2_idx (l : List UInt8) (h : nameP l = true) : decide (0 ≤ idxFunc odd2 true ⟨l.toArray⟩) = !l.all bareB := by
  have ha := nameP_ascii h
  unfold idxFunc
  rw [idx_asc odd2 ⟨l.toArray⟩ _ 0 (by omega) (by simpa using ha)]
  show l.any _ = _
  induction l with
  | nil => rfl
  | cons c t ih =>
    rw [List.any_cons, List.all_cons, Bool.not_and, odd2_bare c (ha c (List.mem_cons_self ..))]
    have ha' : ∀ b ∈ t, b.toNat < 128 := fun b hb => ha b (List.mem_cons_of_mem _ hb)
    congr 1
    clear ih h ha
    induction t with
    | nil => rfl
    | cons d t ih => rw [List.any_cons, List.all_cons, Bool.not_and, odd2_bare d (ha' d (List.mem_cons_self ..)), ih (fun b hb => ha' b (List.mem_cons_of_mem _ hb))]

end Go.Proofs.YtlaafpbhhnehgaaDoor
