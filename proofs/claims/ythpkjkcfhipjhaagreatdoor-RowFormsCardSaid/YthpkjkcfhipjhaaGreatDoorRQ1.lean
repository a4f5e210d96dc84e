/- Rows, in plain words: two rows are the same; what is written is read. -/
import Derived.Test.YthpkjkcfhipjhaaGreatDoorXA
namespace Go.Proofs.YthpkjkcfhipjhaaGreatDoor
set_option linter.unusedVariables false
set_option linter.unusedSimpArgs false
open Go.RowKit Go.Proofs.YthpkjkcfhipjhaaGreatDoorW.PrintWords Go.Proofs.YthpkjkcfhipjhaaGreatDoorW.PrintLast PRW

theorem w64k {n : Int} (h0 : -9223372036854775808 ≤ n) (h1 : n ≤ 9223372036854775807) : wrap64 n = n := by unfold wrap64; omega

/-- two values of the program are not the same -/
def neqS (x y : S64) : Bool := (!(x.f0 == y.f0) || (!(x.f1 == y.f1) || (!(x.f2 == y.f2) || (!(x.f3.toList == y.f3.toList)))))
theorem neqS_iff (x y : S64) : neqS x y = true ↔ x ≠ y := by
  unfold neqS
  simp only [Bool.or_eq_true, Bool.not_eq_true', beq_eq_false_iff_ne, ne_eq]
  constructor
  · rintro h rfl
    simp at h
  · intro h
    by_cases h0 : x.f0 = y.f0
    · by_cases h1 : x.f1 = y.f1
      · by_cases h2 : x.f2 = y.f2
        · right; right; right
          intro h3
          have h3 := (toList_inj _ _).1 h3
          apply h
          cases x; cases y; simp_all
        · exact .inr (.inr (.inl h2))
      · exact .inr (.inl h1)
    · exact .inl h0
theorem neqS_self (x : S64) : neqS x x = false := by
  cases h : neqS x x
  · rfl
  · exact absurd rfl ((neqS_iff x x).1 h)

theorem rd_at (L : List S64) (i : Nat) (h : i < L.length) : rd_T64 L (i : Int) = L[i] := by unfold rd_T64; simp [h]

instance : DecidableEq S64 := fun x y => decidable_of_iff (neqS x y = false) (by
  constructor
  · intro h
    apply Classical.byContradiction
    intro hn
    rw [(neqS_iff x y).2 hn] at h; cases h
  · rintro rfl; exact neqS_self x)

theorem same_ev (l m : List S64) (hl : l.length ≤ 9223372036854775806) : Ev (fun k => freshetref02_Same.f k l m) (decide (l = m)) := by
  by_cases hlen : l.length = m.length
  · have main : ∀ d i : Nat, i + d = l.length → l.take i = m.take i → Ev (fun k => freshetref02_Same.l0 k l m (i : Int)) (decide (l = m)) := by
      intro d
      induction d with
      | zero =>
        intro i hi ht
        have he : l = m := by
          rw [List.take_of_length_le (by omega), List.take_of_length_le (by omega)] at ht; exact ht
        rw [decide_eq_true he]
        refine Ev.step (f := fun _ => some true) (fun k => ?_) (Ev.now _)
        simp only [freshetref02_Same.l0]
        rw [if_neg (by omega)]
      | succ d ih =>
        intro i hi ht
        have h1 : i < l.length := by omega
        have h2 : i < m.length := by omega
        by_cases hx : l[i] = m[i]
        · have hn : neqS (rd_T64 l (i : Int)) (rd_T64 m (i : Int)) = false := by rw [rd_at l i h1, rd_at m i h2, hx]; exact neqS_self _
          refine Ev.step (fun k => ?_) (ih (i + 1) (by omega) (by rw [List.take_succ_eq_append_getElem h1, List.take_succ_eq_append_getElem h2, ht, hx]))
          simp only [freshetref02_Same.l0]
          rw [if_pos (by omega), if_pos (by omega), if_pos (by omega)]
          unfold neqS at hn
          rw [hn, if_neg Bool.false_ne_true, w64k (by omega) (by omega)]
          rfl
        · have hn : neqS (rd_T64 l (i : Int)) (rd_T64 m (i : Int)) = true := by rw [rd_at l i h1, rd_at m i h2]; exact (neqS_iff _ _).2 hx
          have hne : l ≠ m := by rintro rfl; exact hx rfl
          rw [decide_eq_false hne]
          refine Ev.step (f := fun _ => some false) (fun k => ?_) (Ev.now _)
          simp only [freshetref02_Same.l0]
          rw [if_pos (by omega), if_pos (by omega), if_pos (by omega)]
          unfold neqS at hn
          rw [hn, if_pos rfl]
    have := main l.length 0 (by omega) (by simp)
    refine Ev.congr (fun k => ?_) this
    simp only [freshetref02_Same.f]
    rw [if_pos (by omega)]; rfl
  · have hne : l ≠ m := by rintro rfl; exact hlen rfl
    rw [decide_eq_false hne]
    refine Ev.congr (f := fun _ => some false) (fun k => ?_) (Ev.now _)
    simp only [freshetref02_Same.f]
    rw [if_neg (by omega)]

theorem map_ofV_toV (l : List S64) : (l.map toV).map ofV = l := by
  rw [List.map_map]
  exact List.map_id'' (fun x => ofV_toV x) l
theorem map_toV_ofV (l : List V) : (l.map ofV).map toV = l := by
  rw [List.map_map]
  exact List.map_id'' (fun x => toV_ofV x) l

theorem sound_all {l : List S64} (h : soundL l = true) (hr : rngL l = true) : (∀ x ∈ l.map toV, okV x) ∧ l.length ≤ 1024 := by
  unfold soundL at h
  rw [Bool.and_eq_true, decide_eq_true_eq] at h
  refine ⟨fun x hx => ?_, h.1⟩
  obtain ⟨y, hy, rfl⟩ := List.mem_map.1 hx
  have h1 := List.all_eq_true.1 h.2 y hy
  have h2 := (rngV_iff y).1 (List.all_eq_true.1 hr y hy)
  exact ⟨h1, h2.1, h2.2⟩
theorem sound_of {l : List V} (h : ∀ x ∈ l, okV x) (hl : l.length ≤ 1024) : soundL (l.map ofV) = true ∧ rngL (l.map ofV) = true := by
  constructor
  · unfold soundL
    rw [Bool.and_eq_true, decide_eq_true_eq, List.length_map]
    refine ⟨hl, List.all_eq_true.2 fun y hy => ?_⟩
    obtain ⟨x, hx, rfl⟩ := List.mem_map.1 hy
    exact (h x hx).1
  · unfold rngL
    refine List.all_eq_true.2 fun y hy => ?_
    obtain ⟨x, hx, rfl⟩ := List.mem_map.1 hy
    exact (rngV_iff _).2 ⟨(h x hx).2.1, (h x hx).2.2⟩

theorem dec_enc (l : List V) (h : ∀ x ∈ l, okV x) (hl : l.length ≤ 1024) : decB (encR l) = .ok l := by
  have := decR_enc l [] ((encR l).length + 1) h (by simpa using hl) (by have := enc_len_le l; omega)
  simpa [decB] using this
theorem enc_dec {s : List UInt8} {l : List V} (h : decB s = .ok l) : encR l = s ∧ (∀ x ∈ l, okV x) ∧ l.length ≤ 1024 := by
  obtain ⟨m, h1, h2, h3, h4⟩ := enc_decR _ _ _ _ h (by simp)
  simp only [List.nil_append] at h1
  subst h1
  exact ⟨h2.symm, h3, h4⟩
theorem dec_err : ∀ (k : Nat) (acc : List V) (l : List UInt8) (c : Int), l.length < k → decR k acc l = .error c → c = 1 ∨ c = 3 ∨ c = 4 ∨ c = 12
  | k + 1, acc, l, c, hk, h => by
    rw [decR] at h
    split at h
    · cases h
    · split at h
      · split at h
        · rename_i v l' hv
          have := decV_lt hv
          exact dec_err k _ _ _ (by omega) h
        · rename_i e hv
          cases h
          match l, hv with
          | [], hv => rw [decV] at hv; cases hv; simp
          | d :: l2, hv =>
            rw [decV] at hv
            split at hv
            · cases hv
            · split at hv
              · split at hv
                · cases hv; simp
                · split at hv
                  · cases hv
                  · cases hv; simp
              · split at hv
                · split at hv
                  · cases hv
                  · rename_i e2 ht
                    cases hv
                    have : ∀ (n : Nat) (s acc : List UInt8) (e : Int), s.length ≤ n → decT acc s = .error e → e = 3 ∨ e = 4 ∨ e = 12 := by
                      intro n
                      induction n with
                      | zero =>
                        intro s acc e hs he
                        have : s = [] := List.length_eq_zero_iff.1 (by omega)
                        subst this; rw [decT_nil] at he; cases he; simp
                      | succ n ih =>
                        intro s acc e hs he
                        match s, hs, he with
                        | [], _, he => rw [decT_nil] at he; cases he; simp
                        | a :: t, hs, he =>
                          by_cases ha : a = 0
                          · subst ha
                            match t, hs, he with
                            | [], _, he => rw [decT_zero] at he; cases he; simp
                            | b :: t', hs, he =>
                              by_cases hb : b = 0
                              · subst hb
                                rw [decT_end] at he
                                split at he
                                · cases he
                                · cases he; simp
                              · by_cases hf : b = 255
                                · subst hf; rw [decT_esc0] at he; exact ih t' _ _ (by simp at hs; omega) he
                                · rw [decT_odd _ _ _ hb hf] at he; cases he; simp
                          · rw [decT_cons _ _ _ ha] at he; exact ih t _ _ (by simp at hs; omega) he
                    have := this _ _ _ _ (Nat.le_refl _) ht
                    omega
                · cases hv; simp
      · cases h; simp

end Go.Proofs.YthpkjkcfhipjhaaGreatDoor
