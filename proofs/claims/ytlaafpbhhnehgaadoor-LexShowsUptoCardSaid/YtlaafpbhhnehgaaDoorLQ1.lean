/- Plain: tokens stand in rising places. -/
import Derived.Test.YtlaafpbhhnehgaaDoorXL
namespace Go.Proofs.YtlaafpbhhnehgaaDoor
set_option linter.unusedVariables false
set_option linter.unusedSimpArgs false
open Go.RowKit Go.Proofs.YtlaafpbhhnehgaaDoorW.PrintWords Go.Proofs.YtlaafpbhhnehgaaDoorW.PrintLast PLX

theorem take_self {l x : List UInt8} {n : Nat} (h : x = l.take n) (hn : n ≤ l.length) : x = l.take x.length := by
  have : x.length = n := by rw [h, List.length_take]; omega
  rw [this]; exact h

/-- what a token is like -/
structure TokOk (l : List UInt8) (k : Int) (x : List UInt8) : Prop where
  lo : 1 ≤ k
  hi : k ≤ 6
  some_ : x ≠ [] ∨ k = 5
  there : k = 6 ∨ k = 4 → x = l.take x.length ∧ x.length ≤ l.length
  word : k = 2 → isWd x = true

theorem run_pos {p : Int → Bool} {c : UInt8} {t : List UInt8} (h : p c.toNat = true) : 1 ≤ runL p (c :: t) := by rw [runL, if_pos h]; omega
theorem pre_take {l p : List UInt8} (h : Lib.hasPrefix l p = true) : p = l.take p.length ∧ p.length ≤ l.length := by
  have := List.isPrefixOf_iff_prefix.1 h
  exact ⟨List.prefix_iff_eq_take.1 this, this.length_le⟩

theorem tok_ok {l : List UInt8} {k : Int} {x : List UInt8} {m : Nat} (h : tokL l = some (k, x, m)) : TokOk l k x := by
  match l, h with
  | c :: t, h =>
    rw [tokL] at h
    by_cases h1 : isLet c.toNat = true
    · rw [if_pos h1] at h
      have hi : isInn c.toNat = true := by simp [isInn, h1]
      have hr := run_pos (t := t) hi
      obtain ⟨n, hn⟩ : ∃ n, runL isInn (c :: t) = n + 1 := ⟨runL isInn (c :: t) - 1, by omega⟩
      unfold wordT at h
      rw [hn, List.take_succ_cons] at h
      split at h
      · rename_i hw
        simp only [Option.some.injEq, Prod.mk.injEq] at h
        obtain ⟨rfl, rfl, rfl⟩ := h
        exact ⟨by omega, by omega, .inl (by simp [Lib.toUpperA]), fun hh => by omega, fun _ => hw⟩
      · split at h
        · simp only [Option.some.injEq, Prod.mk.injEq] at h
          obtain ⟨rfl, rfl, rfl⟩ := h
          exact ⟨by omega, by omega, .inl (by simp [Lib.toLowerA]), fun hh => by omega, fun hh => by omega⟩
        · cases h
    · rw [if_neg h1] at h
      by_cases h2 : isDig c.toNat = true
      · rw [if_pos h2] at h
        have hr1 := run_pos (t := t) h2
        have hr2 := runL_le isDig (c :: t)
        have ht := tok_le (l := c :: t) (k := k) (x := x) (m := m) (by rw [tokL, if_neg h1, if_pos h2]; exact h)
        unfold numT at h
        split at h
        · split at h
          · simp only [Option.some.injEq, Prod.mk.injEq] at h
            obtain ⟨rfl, rfl, rfl⟩ := h
            refine ⟨by omega, by omega, .inl ?_, fun _ => ⟨take_self rfl ht.2, by rw [List.length_take]; omega⟩, fun hh => by omega⟩
            intro hc
            have := congrArg List.length hc
            rw [List.length_take] at this
            simp only [List.length_nil] at this
            omega
          · cases h
        · split at h
          · simp only [Option.some.injEq, Prod.mk.injEq] at h
            obtain ⟨rfl, rfl, rfl⟩ := h
            refine ⟨by omega, by omega, .inl ?_, fun hh => by omega, fun hh => by omega⟩
            intro hc
            have := congrArg List.length hc
            unfold bareN at this
            rw [List.length_append, List.length_take, List.length_drop] at this
            simp only [List.length_nil] at this
            omega
          · cases h
      · rw [if_neg h2] at h
        by_cases h3 : c = 34
        · rw [if_pos h3] at h
          cases hb : betL 34 t with
          | none => rw [hb] at h; simp [nameT] at h
          | some r =>
            rw [hb] at h
            simp only [nameT] at h
            split at h
            · rename_i hn
              simp only [Option.some.injEq, Prod.mk.injEq] at h
              obtain ⟨rfl, rfl, rfl⟩ := h
              refine ⟨by omega, by omega, .inl ?_, fun hh => by omega, fun hh => by omega⟩
              intro hc
              rw [hc] at hn
              rw [nameL_eq] at hn
              simp [nameP] at hn
            · cases h
        · rw [if_neg h3] at h
          by_cases h4 : c = 39
          · rw [if_pos h4] at h
            cases hb : betL 39 t with
            | none => rw [hb] at h; simp [textT] at h
            | some r =>
              rw [hb] at h
              simp only [textT] at h
              split at h
              · simp only [Option.some.injEq, Prod.mk.injEq] at h
                obtain ⟨rfl, rfl, rfl⟩ := h
                exact ⟨by omega, by omega, .inr rfl, fun hh => by omega, fun hh => by omega⟩
              · cases h
          · rw [if_neg h4] at h
            have two : ∀ i, twoS i ≠ [] := by intro i; unfold twoS; split <;> simp
            unfold signT at h
            split at h
            · rename_i hh
              simp only [Option.some.injEq, Prod.mk.injEq] at h; obtain ⟨rfl, rfl, rfl⟩ := h
              exact ⟨by omega, by omega, .inl (two 0), fun _ => pre_take hh, fun hh => by omega⟩
            · split at h
              · rename_i hh
                simp only [Option.some.injEq, Prod.mk.injEq] at h; obtain ⟨rfl, rfl, rfl⟩ := h
                exact ⟨by omega, by omega, .inl (two 1), fun _ => pre_take hh, fun hh => by omega⟩
              · split at h
                · rename_i hh
                  simp only [Option.some.injEq, Prod.mk.injEq] at h; obtain ⟨rfl, rfl, rfl⟩ := h
                  exact ⟨by omega, by omega, .inl (two 2), fun _ => pre_take hh, fun hh => by omega⟩
                · split at h
                  · rename_i hh
                    simp only [Option.some.injEq, Prod.mk.injEq] at h; obtain ⟨rfl, rfl, rfl⟩ := h
                    exact ⟨by omega, by omega, .inl (two 3), fun _ => pre_take hh, fun hh => by omega⟩
                  · split at h
                    · simp only [Option.some.injEq, Prod.mk.injEq] at h; obtain ⟨rfl, rfl, rfl⟩ := h
                      exact ⟨by omega, by omega, .inl (by simp), fun _ => ⟨by simp, by simp⟩, fun hh => by omega⟩
                    · cases h

/-- what is left behind skip is an end of what was there -/
theorem skip_suf : ∀ (l : List UInt8) (m : Nat) (st : List UInt8), (∃ n, (skipL m st l).1 = l.drop n) ∨ (skipL m st l).1 = st
  | [], m, st => by
    unfold skipL; split
    · exact .inr rfl
    · exact .inl ⟨0, rfl⟩
  | c :: t, m, st => by
    have up : ∀ m' st', ((∃ n, (skipL m' st' t).1 = t.drop n) ∨ (skipL m' st' t).1 = st') → (st' = st ∨ st' = [] ∨ st' = c :: t) → (∃ n, (skipL m' st' t).1 = (c :: t).drop n) ∨ (skipL m' st' t).1 = st := by
      intro m' st' h hs
      rcases h with ⟨n, h⟩ | h
      · exact .inl ⟨n + 1, h⟩
      · rcases hs with hs | hs | hs
        · exact .inr (h.trans hs)
        · exact .inl ⟨(c :: t).length, by rw [h, hs, List.drop_length]⟩
        · exact .inl ⟨0, by rw [h, hs]; rfl⟩
    unfold skipL
    split
    · split
      · exact up _ _ (skip_suf t 0 []) (.inr (.inl rfl))
      · split
        · exact up _ _ (skip_suf t 1 []) (.inr (.inl rfl))
        · split
          · exact up _ _ (skip_suf t 2 (c :: t)) (.inr (.inr rfl))
          · exact .inl ⟨0, rfl⟩
    · split
      · split
        · exact up _ _ (skip_suf t 0 []) (.inr (.inl rfl))
        · exact up _ _ (skip_suf t 1 []) (.inr (.inl rfl))
      · split
        · exact up _ _ (skip_suf t 3 st) (.inl rfl)
        · split
          · split
            · exact up _ _ (skip_suf t 4 st) (.inl rfl)
            · exact up _ _ (skip_suf t 3 st) (.inl rfl)
          · exact up _ _ (skip_suf t 0 []) (.inr (.inl rfl))

theorem skip_drop (l : List UInt8) : ∃ n, n ≤ l.length ∧ (skipL 0 [] l).1 = l.drop n := by
  rcases skip_suf l 0 [] with ⟨n, h⟩ | h
  · by_cases hn : n ≤ l.length
    · exact ⟨n, hn, h⟩
    · exact ⟨l.length, Nat.le_refl _, by rw [h, List.drop_of_length_le (by omega), List.drop_length]⟩
  · exact ⟨l.length, Nat.le_refl _, by rw [h, List.drop_length]⟩

/-- tokens that stand in rising places of the text L, from lo on -/
def PLs (L : List UInt8) : Nat → List S34 → Prop
  | _, [] => False
  | lo, [e] => e = ⟨0, ⟨#[]⟩, (L.length : Int)⟩ ∧ lo ≤ L.length
  | lo, t :: u :: r => ∃ q : Nat, lo ≤ q ∧ q < L.length ∧ t.f2 = q ∧ TokOk (L.drop q) t.f0 t.f1.data.toList ∧ PLs L (q + 1) (u :: r)

theorem PLs.mono {L : List UInt8} : ∀ {l : List S34} {a b : Nat}, a ≤ b → PLs L b l → PLs L a l
  | [], _, _, _, h => h
  | [e], _, _, hab, h => ⟨h.1, Nat.le_trans hab h.2⟩
  | t :: u :: r, _, _, hab, ⟨q, h1, h2⟩ => ⟨q, Nat.le_trans hab h1, h2⟩

theorem PLs.cons {L : List UInt8} {lo q : Nat} {t : S34} {l : List S34} (h1 : lo ≤ q) (h2 : q < L.length) (h3 : t.f2 = q) (h4 : TokOk (L.drop q) t.f0 t.f1.data.toList) (h5 : PLs L (q + 1) l) : PLs L lo (t :: l) := by
  match l, h5 with
  | u :: r, h5 => exact ⟨q, h1, h2, h3, h4, h5⟩

theorem scan_places (L : List UInt8) : ∀ (d p : Nat) (l : List S34), p ≤ L.length → scanL d L.length (L.drop p) = .ok l → PLs L p l ∧ l.length ≤ d + 1 := by
  intro d
  induction d with
  | zero =>
    intro p l hp h
    unfold scanL at h
    split at h
    · cases h
    · split at h
      · cases h; exact ⟨⟨rfl, hp⟩, by simp⟩
      · cases h
  | succ d ih =>
    intro p l hp h
    unfold scanL at h
    obtain ⟨n, hn, hsk⟩ := skip_drop (L.drop p)
    rw [List.length_drop] at hn
    rw [List.drop_drop] at hsk
    rw [hsk] at h
    split at h
    · cases h
    · split at h
      · cases h; exact ⟨⟨rfl, hp⟩, by simp⟩
      · rename_i hne
        have hq : p + n < L.length := by
          by_cases hc : p + n < L.length
          · exact hc
          · exact absurd (List.drop_of_length_le (by omega)) hne
        cases ht : tokL (L.drop (p + n)) with
        | none => rw [ht] at h; cases h
        | some r =>
          obtain ⟨k, x, m⟩ := r
          rw [ht] at h
          simp only [List.drop_drop] at h
          have hm := tok_le ht
          rw [List.length_drop] at hm
          cases hs : scanL d L.length (L.drop (p + n + m)) with
          | error e => rw [hs] at h; cases h
          | ok l' =>
            rw [hs] at h
            simp only [Except.map, Except.ok.injEq] at h
            subst h
            obtain ⟨i1, i2⟩ := ih (p + n + m) l' (by omega) hs
            have hl : L.length - (L.drop (p + n)).length = p + n := by rw [List.length_drop]; omega
            refine ⟨PLs.cons (q := p + n) (by omega) hq (by simp only [hl]) (tok_ok ht) (i1.mono (by omega)), by simp; omega⟩

end Go.Proofs.YtlaafpbhhnehgaaDoor
