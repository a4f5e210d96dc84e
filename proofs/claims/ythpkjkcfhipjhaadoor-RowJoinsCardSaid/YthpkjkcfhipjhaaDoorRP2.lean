/- Rows and their bytes: what is written is read again, what is read is written as the same bytes; bytes that are cut. -/
import Derived.Test.YthpkjkcfhipjhaaDoorRP1
namespace Go.Proofs.YthpkjkcfhipjhaaDoor
set_option linter.unusedVariables false
set_option linter.unusedSimpArgs false
open Go.RowKit

theorem decT_nil (acc : List UInt8) : decT acc [] = .error 3 := by simp [decT]
theorem decT_cons (acc : List UInt8) (c : UInt8) (l : List UInt8) (h : c ≠ 0) : decT acc (c :: l) = decT (acc ++ [c]) l := by rw [decT.eq_def]; simp only; rw [if_pos h]
theorem decT_zero (acc : List UInt8) : decT acc [0] = .error 3 := by rw [decT]; simp
theorem decT_end (acc l : List UInt8) : decT acc (0 :: 0 :: l) = if acc.length ≤ 4096 then .ok (acc, l) else .error 12 := by rw [decT]; simp
theorem decT_esc0 (acc l : List UInt8) : decT acc (0 :: 255 :: l) = decT (acc ++ [0]) l := by rw [decT]; simp
theorem decT_odd (acc l : List UInt8) (d : UInt8) (h0 : d ≠ 0) (h1 : d ≠ 255) : decT acc (0 :: d :: l) = .error 4 := by rw [decT]; simp [h0, h1]

theorem decT_esc : ∀ (t acc rest : List UInt8), acc.length + t.length ≤ 4096 → decT acc (escT t ++ 0 :: 0 :: rest) = .ok (acc ++ t, rest)
  | [], acc, rest, h => by
    show decT acc (0 :: 0 :: rest) = _
    rw [decT_end, if_pos (by simpa using h), List.append_nil]
  | c :: t, acc, rest, h => by
    have h2 : (acc ++ [c]).length + t.length ≤ 4096 := by simp at h ⊢; omega
    have ih := decT_esc t (acc ++ [c]) rest h2
    by_cases h0 : c = 0
    · subst h0
      have e : escT (0 :: t) = 0 :: 255 :: escT t := by simp [escT]
      rw [e, List.cons_append, List.cons_append, decT_esc0, ih]; simp
    · have e : escT (c :: t) = c :: escT t := by simp [escT, h0]
      rw [e, List.cons_append, decT_cons _ _ _ h0, ih]; simp

theorem esc_decT : ∀ (n : Nat) (s acc : List UInt8), s.length ≤ n → ∀ t rest, decT acc s = .ok (t, rest) → ∃ u, t = acc ++ u ∧ s = escT u ++ 0 :: 0 :: rest ∧ t.length ≤ 4096 := by
  intro n
  induction n with
  | zero =>
    intro s acc hs t rest h
    have : s = [] := List.length_eq_zero_iff.1 (by omega)
    subst this; rw [decT_nil] at h; cases h
  | succ n ih =>
    intro s acc hs t rest h
    match s, hs, h with
    | [], _, h => rw [decT_nil] at h; cases h
    | c :: l, hs, h =>
      by_cases h0 : c = 0
      · subst h0
        match l, hs, h with
        | [], _, h => rw [decT_zero] at h; cases h
        | d :: l', hs, h =>
          by_cases hd : d = 0
          · subst hd
            rw [decT_end] at h
            split at h
            · cases h
              exact ⟨[], by simp, rfl, by assumption⟩
            · cases h
          · by_cases hf : d = 255
            · subst hf
              rw [decT_esc0] at h
              obtain ⟨u, h1, h2, h3⟩ := ih l' _ (by simp at hs; omega) t rest h
              exact ⟨0 :: u, by rw [h1]; simp, by rw [h2]; simp [escT], h3⟩
            · rw [decT_odd _ _ _ hd hf] at h; cases h
      · rw [decT_cons _ _ _ h0] at h
        obtain ⟨u, h1, h2, h3⟩ := ih l _ (by simp at hs; omega) t rest h
        exact ⟨c :: u, by rw [h1]; simp, by rw [h2]; simp [escT, h0], h3⟩

theorem decT_cut : ∀ (t acc p q : List UInt8), escT t ++ [0, 0] = p ++ q → q ≠ [] → decT acc p = .error 3
  | [], acc, p, q, h, hq => by
    match p, h with
    | [], _ => exact decT_nil _
    | [a], h => have : a = 0 := by simp [escT] at h; exact h.1.symm
                subst this; exact decT_zero _
    | a :: b :: p', h =>
      exfalso
      have h2 := congrArg List.length h
      simp only [escT, List.nil_append, List.length_append, List.length_cons, List.length_nil] at h2
      exact hq (List.length_eq_zero_iff.1 (by omega))
  | c :: t, acc, p, q, h, hq => by
    by_cases h0 : c = 0
    · subst h0
      have e : escT (0 :: t) = 0 :: 255 :: escT t := by simp [escT]
      rw [e] at h
      match p, h with
      | [], _ => exact decT_nil _
      | [a], h => have : a = 0 := by simp at h; exact h.1.symm
                  subst this; exact decT_zero _
      | a :: b :: p', h =>
        simp only [List.cons_append, List.cons.injEq] at h
        obtain ⟨rfl, rfl, h⟩ := h
        rw [decT_esc0]
        exact decT_cut t _ p' q h hq
    · have e : escT (c :: t) = c :: escT t := by simp [escT, h0]
      rw [e] at h
      match p, h with
      | [], _ => exact decT_nil _
      | a :: p', h =>
        simp only [List.cons_append, List.cons.injEq] at h
        obtain ⟨rfl, h⟩ := h
        rw [decT_cons _ _ _ h0]
        exact decT_cut t _ p' q h hq

theorem back_key {f : Int} (h : U64 f) : backI ((rKey f).toNat : Int) = f := by
  obtain ⟨h0, h1⟩ := h
  unfold backI rKey
  split <;> split <;> omega
theorem key_back {n : Nat} (h : n < 18446744073709551616) : (rKey (backI n)).toNat = n := by
  unfold rKey backI
  split <;> split <;> omega

theorem kindN {x : V} (h : sV x = true) : (UInt8.ofNat x.k.toNat).toNat = x.k.toNat := by
  have := kind_le h
  simp; omega

theorem V_ext {x y : V} (h1 : x.k = y.k) (h2 : x.n = y.n) (h3 : x.f = y.f) (h4 : x.t = y.t) : x = y := by cases x; cases y; simp_all
theorem word_facts {x : V} (h : sV x = true) (h123 : x.k = 1 ∨ x.k = 2 ∨ x.k = 3) : x.t = ⟨#[]⟩ ∧ (x.k = 3 → x.n = 0) ∧ (x.k ≠ 3 → x.f = 0) := by
  rcases sound_cases h with c | c | c | c | c
  · have := c.1; omega
  · exact ⟨c.2.2.2, fun e => by have := c.1; omega, fun _ => c.2.2.1⟩
  · exact ⟨c.2.2, fun e => by have := c.1; omega, fun _ => c.2.1⟩
  · exact ⟨c.2.2.2, fun _ => c.2.1, fun e => absurd c.1 e⟩
  · have := c.1; omega
theorem ofWord_eq (x : V) (h : okV x) (h123 : x.k = 1 ∨ x.k = 2 ∨ x.k = 3) : ofWord x.k (wordV x) = x := by
  obtain ⟨hs, ⟨i1, i2⟩, hU⟩ := h
  obtain ⟨ht, h3, hf⟩ := word_facts hs h123
  unfold ofWord wordV
  by_cases hk : x.k = 3
  · rw [if_pos hk, if_pos hk, back_key hU]
    exact V_ext hk.symm (h3 hk).symm rfl ht.symm
  · rw [if_neg hk, if_neg hk]
    refine V_ext rfl ?_ (hf hk).symm ht.symm
    simp only; omega

theorem decV_enc (x : V) (h : okV x) (rest : List UInt8) : decV (encV x ++ rest) = .ok (x, rest) := by
  have hk := kind_le h.1
  have hkn := kindN h.1
  have hw := wordV_lt h
  obtain ⟨hs, hI, hU⟩ := h
  unfold encV
  rw [List.cons_append, decV, hkn]
  rcases sound_cases hs with c | c | c | c | c
  · obtain ⟨c1, c2, c3, c4⟩ := c
    rw [if_pos (by omega), if_neg (by omega), if_neg (by omega)]
    cases x; simp_all
  all_goals rw [if_neg (by omega)]
  case inr.inr.inr.inr =>
    obtain ⟨c1, c2, c3, c4⟩ := c
    rw [if_neg (by omega), if_pos (by omega), if_neg (by omega), if_pos c1]
    have hl4 : x.t.data.toList.length ≤ 4096 := by rw [← Lib.size_eq]; exact c4
    have := decT_esc x.t.data.toList [] rest (by simp only [List.length_nil]; omega)
    simp only [List.append_assoc, List.cons_append, List.nil_append] at this ⊢
    rw [this]
    cases x; simp_all
  all_goals
    have h123 : x.k = 1 ∨ x.k = 2 ∨ x.k = 3 := by omega
    have hlen : (beB 8 (wordV x)).length = 8 := beB_len _ _
    rw [if_pos (by omega), if_pos h123, if_neg (by rw [List.length_append, hlen]; omega)]
    have et : (beB 8 (wordV x) ++ rest).take 8 = beB 8 (wordV x) := by rw [List.take_append_of_le_length (by omega), List.take_of_length_le (by omega)]
    have ed : (beB 8 (wordV x) ++ rest).drop 8 = rest := by rw [List.drop_append_of_le_length (by omega), List.drop_of_length_le (by omega), List.nil_append]
    rw [et, ed, numB_beB 8 _ hw]
    have ex : ofWord (x.k.toNat : Int) (wordV x) = x := by rw [show (x.k.toNat : Int) = x.k by omega]; exact ofWord_eq x ⟨hs, hI, hU⟩ h123
    rw [ex, if_pos hs]

theorem decR_enc : ∀ (l acc : List V) (k : Nat), (∀ x ∈ l, okV x) → acc.length + l.length ≤ 1024 → l.length < k → decR k acc (encR l) = .ok (acc ++ l)
  | [], acc, k + 1, _, _, _ => by rw [decR]; simp [encR]
  | x :: l, acc, k + 1, h, hl, hk => by
    have e : encR (x :: l) = encV x ++ encR l := rfl
    rw [e, decR, if_neg (by intro h'; exact encV_ne x (List.append_eq_nil_iff.1 h').1), if_pos (by simp at hl; omega), decV_enc x (h x (by simp))]
    simp only
    rw [decR_enc l (acc ++ [x]) k (fun y hy => h y (by simp [hy])) (by simp at hl ⊢; omega) (by simp at hk; omega)]
    simp

theorem enc_len_le (l : List V) : l.length ≤ (encR l).length := by
  induction l with
  | nil => simp
  | cons x l ih =>
    have e : encR (x :: l) = encV x ++ encR l := rfl
    rw [e, List.length_append, List.length_cons]
    have : 0 < (encV x).length := List.length_pos_iff.2 (encV_ne x)
    omega

theorem enc_decV {s : List UInt8} {x : V} {rest : List UInt8} (h : decV s = .ok (x, rest)) : s = encV x ++ rest ∧ okV x := by
  match s, h with
  | [], h => rw [decV] at h; cases h
  | c :: l, h =>
    have hcl := c.toNat_lt
    have hcc : UInt8.ofNat c.toNat = c := by simp
    rw [decV] at h
    split at h
    · rename_i h0
      cases h
      have hc0 : c = 0 := UInt8.toNat_inj.1 h0
      subst hc0
      refine ⟨by simp [encV], by kernel_rfl, ⟨by decide, by decide⟩, ⟨by decide, by decide⟩⟩
    · rename_i h0
      split at h
      · rename_i h3
        split at h
        · cases h
        · rename_i h8
          have hlt : (l.take 8).length = 8 := by rw [List.length_take]; omega
          have hn := numB_lt (l.take 8)
          rw [hlt] at hn
          have e8 : 256 ^ 8 = 18446744073709551616 := by decide
          rw [e8] at hn
          split at h
          · rename_i hs
            cases h
            have hk : (ofWord c.toNat (numB (l.take 8))).k = (c.toNat : Int) := by unfold ofWord; split <;> simp_all
            have hok : okV (ofWord c.toNat (numB (l.take 8))) := by
              refine ⟨hs, ?_, ?_⟩
              · unfold ofWord I64; split <;> simp <;> omega
              · unfold ofWord U64 backI; split
                · simp only; split <;> omega
                · simp
            refine ⟨?_, hok⟩
            have hw : wordV (ofWord c.toNat (numB (l.take 8))) = numB (l.take 8) := by
              unfold wordV
              rw [hk]
              split
              · rename_i hk3
                have : (ofWord c.toNat (numB (l.take 8))).f = backI (numB (l.take 8)) := by unfold ofWord; rw [if_pos hk3]
                rw [this, key_back hn]
              · rename_i hk3
                have : (ofWord c.toNat (numB (l.take 8))).n = (numB (l.take 8) : Int) - 9223372036854775808 := by unfold ofWord; rw [if_neg hk3]
                rw [this]; omega
            unfold encV
            rw [hk, hw, if_pos (by omega), beB_numB 8 _ hlt]
            simp
          · cases h
      · rename_i h3
        split at h
        · rename_i h4
          split at h
          · rename_i t l' ht
            cases h
            obtain ⟨u, h1, h2, h5⟩ := esc_decT _ _ _ (Nat.le_refl _) _ _ ht
            simp only [List.nil_append] at h1
            subst h1
            refine ⟨?_, ?_, ⟨(by decide : (-9223372036854775808 : Int) ≤ 0), (by decide : (0 : Int) ≤ 9223372036854775807)⟩, ⟨(by decide : (0 : Int) ≤ 0), (by decide : (0 : Int) < 18446744073709551616)⟩⟩
            · have hc4 : c = 4 := UInt8.toNat_inj.1 h4
              subst hc4
              rw [h2]
              simp [encV]
            · exact sound_txt _ (by rw [Lib.size_eq]; exact h5)
          · cases h
        · cases h

theorem enc_decR : ∀ (k : Nat) (acc : List V) (s : List UInt8) (l : List V), decR k acc s = .ok l → acc.length ≤ 1024 → ∃ m, l = acc ++ m ∧ s = encR m ∧ (∀ x ∈ m, okV x) ∧ l.length ≤ 1024
  | 0, acc, s, l, h, _ => by rw [decR] at h; cases h
  | k + 1, acc, s, l, h, ha => by
    rw [decR] at h
    split at h
    · rename_i hs
      cases h
      exact ⟨[], by simp, by rw [hs]; rfl, by simp, ha⟩
    · split at h
      · rename_i h1024
        split at h
        · rename_i v l' hv
          obtain ⟨h1, h2⟩ := enc_decV hv
          obtain ⟨m, h3, h4, h5, h6⟩ := enc_decR k _ _ _ h (by simp; omega)
          refine ⟨v :: m, by rw [h3]; simp, by rw [h1, h4]; rfl, ?_, h6⟩
          intro x hx
          rcases List.mem_cons.1 hx with rfl | hx
          · exact h2
          · exact h5 x hx
        · cases h
      · cases h

theorem decV_cut (x : V) (h : okV x) (p q : List UInt8) (e : encV x = p ++ q) (hp : p ≠ []) (hq : q ≠ []) : decV p = .error 3 := by
  match p, hp, e with
  | a :: p', _, e =>
    have hk := kind_le h.1
    have hkn := kindN h.1
    unfold encV at e
    rw [List.cons_append, List.cons.injEq] at e
    obtain ⟨e1, e2⟩ := e
    have hq0 : 0 < q.length := List.length_pos_iff.2 hq
    rw [← e1, decV, hkn]
    by_cases h123 : x.k = 1 ∨ x.k = 2 ∨ x.k = 3
    · rw [if_pos h123] at e2
      have := congrArg List.length e2
      rw [beB_len, List.length_append] at this
      rw [if_neg (by omega), if_pos (by omega), if_pos (by omega)]
    · rw [if_neg h123] at e2
      by_cases h4 : x.k = 4
      · rw [if_pos h4] at e2
        rw [if_neg (by omega), if_neg (by omega), if_pos (by omega), decT_cut _ _ _ _ e2 hq]
      · rw [if_neg h4] at e2
        have := congrArg List.length e2
        simp at this; omega

theorem decR_cut : ∀ (l acc : List V) (k : Nat) (p q : List UInt8), (∀ x ∈ l, okV x) → acc.length + l.length ≤ 1024 → p.length < k → encR l = p ++ q → q ≠ [] →
    decR k acc p = .error 3 ∨ ∃ m n, l = m ++ n ∧ n ≠ [] ∧ decR k acc p = .ok (acc ++ m)
  | [], acc, k, p, q, _, _, _, e, hq => by
    have h2 := congrArg List.length e
    simp only [encR, List.flatMap_nil, List.length_append, List.length_nil] at h2
    exact absurd (List.length_eq_zero_iff.1 (by omega)) hq
  | x :: l, acc, k + 1, p, q, h, hl, hk, e, hq => by
    by_cases hp : p = []
    · subst hp
      right
      exact ⟨[], x :: l, rfl, by simp, by rw [decR]; simp⟩
    · have hx := h x (by simp)
      have e0 : encR (x :: l) = encV x ++ encR l := rfl
      rw [e0] at e
      rw [decR, if_neg hp, if_pos (by simp at hl; omega)]
      rcases List.append_eq_append_iff.1 e with ⟨b, h1, h2⟩ | ⟨b, h1, h2⟩
      · -- p = encV x ++ b
        rw [h1, decV_enc x hx]
        simp only
        have hle : b.length < k := by
          rw [h1, List.length_append] at hk
          have : 0 < (encV x).length := List.length_pos_iff.2 (encV_ne x)
          omega
        rcases decR_cut l (acc ++ [x]) k b q (fun y hy => h y (by simp [hy])) (by simp at hl ⊢; omega) hle h2 hq with h3 | ⟨m, n, h3, h4, h5⟩
        · exact .inl h3
        · right
          exact ⟨x :: m, n, by rw [h3]; rfl, h4, by rw [h5]; simp⟩
      · by_cases hb : b = []
        · subst hb
          rw [List.append_nil] at h1
          rw [List.nil_append] at h2
          rw [← h1]
          have := decV_enc x hx []
          rw [List.append_nil] at this
          rw [this]
          simp only
          have hle : ([] : List UInt8).length < k := by
            rw [← h1] at hk
            have : 0 < (encV x).length := List.length_pos_iff.2 (encV_ne x)
            simp; omega
          rcases decR_cut l (acc ++ [x]) k [] q (fun y hy => h y (by simp [hy])) (by simp at hl ⊢; omega) hle (by rw [h2]; rfl) hq with h3 | ⟨m, n, h3, h4, h5⟩
          · exact .inl h3
          · right
            exact ⟨x :: m, n, by rw [h3]; rfl, h4, by rw [h5]; simp⟩
        · left
          rw [decV_cut x hx p b h1 hp hb]

end Go.Proofs.YthpkjkcfhipjhaaDoor
