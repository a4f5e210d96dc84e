/- Plain: what is written of a text's tokens; its tokens. -/
import Derived.Test.YtlaafpbhhnehgaaDoorLK2
import Derived.Test.YtlaafpbhhnehgaaDoorPLXx2
namespace Go.Proofs.YtlaafpbhhnehgaaDoor
set_option linter.unusedVariables false
set_option linter.unusedSimpArgs false
open Go.RowKit Go.Proofs.YtlaafpbhhnehgaaDoorW.PrintWords Go.Proofs.YtlaafpbhhnehgaaDoorW.PrintLast PLX

theorem betL_len (c : UInt8) : ∀ (l t : List UInt8) (m : Nat), betL c l = some (t, m) → t.length ≤ m
  | [], _, _, h => by simp [betL] at h
  | [d], t, m, h => by
    by_cases hd : d = c
    · simp [betL, hd] at h; obtain ⟨rfl, rfl⟩ := h; simp
    · simp [betL, hd] at h
  | d :: e :: l, t, m, h => by
    by_cases hd : d = c
    · by_cases he : e = c
      · subst hd; subst he
        rw [betL_two] at h
        cases hb : betL e l with
        | none => rw [hb] at h; simp at h
        | some r =>
          rw [hb] at h
          have := betL_len e l r.1 r.2 hb
          simp at h; obtain ⟨rfl, rfl⟩ := h
          simp; omega
      · simp [betL, hd, he] at h; obtain ⟨rfl, rfl⟩ := h; simp
    · rw [betL_ne _ _ _ hd] at h
      cases hb : betL c (e :: l) with
      | none => rw [hb] at h; simp at h
      | some r =>
        rw [hb] at h
        have := betL_len c (e :: l) r.1 r.2 hb
        simp at h; obtain ⟨rfl, rfl⟩ := h
        simp; omega

theorem tok_len {l : List UInt8} {k : Int} {x : List UInt8} {m : Nat} (h : tokL l = some (k, x, m)) : x.length ≤ l.length := by
  have hm := tok_le h
  have hok := tok_ok h
  match l, h with
  | c :: t, h =>
    rw [tokL] at h
    by_cases h1 : isLet c.toNat = true
    · rw [if_pos h1] at h
      unfold wordT at h
      split at h
      · simp only [Option.some.injEq, Prod.mk.injEq] at h
        obtain ⟨rfl, rfl, rfl⟩ := h
        simp only [Lib.toUpperA, List.length_map, List.length_take]; omega
      · split at h
        · simp only [Option.some.injEq, Prod.mk.injEq] at h
          obtain ⟨rfl, rfl, rfl⟩ := h
          simp only [Lib.toLowerA, List.length_map, List.length_take]; omega
        · cases h
    · rw [if_neg h1] at h
      by_cases h2 : isDig c.toNat = true
      · rw [if_pos h2] at h
        have hr := run_pos (t := t) h2
        have hle := runL_le isDig (c :: t)
        unfold numT at h
        split at h
        · split at h
          · simp only [Option.some.injEq, Prod.mk.injEq] at h
            obtain ⟨rfl, rfl, rfl⟩ := h
            rw [List.length_take]; omega
          · cases h
        · split at h
          · simp only [Option.some.injEq, Prod.mk.injEq] at h
            obtain ⟨rfl, rfl, rfl⟩ := h
            unfold bareN
            have h3 := (List.dropWhile_sublist (l := (c :: t).take (runL isDig (c :: t) - 1)) (· == 48)).length_le
            rw [List.length_take] at h3
            rw [List.length_append, List.length_take]
            unfold Lib.trimLeftB
            omega
          · cases h
      · rw [if_neg h2] at h
        by_cases h3 : c = 34
        · rw [if_pos h3] at h
          cases hb : betL 34 t with
          | none => rw [hb] at h; simp [nameT] at h
          | some r =>
            rw [hb] at h
            have h4 := betL_len 34 t r.1 r.2 hb
            simp only [nameT] at h
            split at h
            · simp only [Option.some.injEq, Prod.mk.injEq] at h
              obtain ⟨rfl, rfl, rfl⟩ := h; omega
            · cases h
        · rw [if_neg h3] at h
          by_cases h4 : c = 39
          · rw [if_pos h4] at h
            cases hb : betL 39 t with
            | none => rw [hb] at h; simp [textT] at h
            | some r =>
              rw [hb] at h
              have h4 := betL_len 39 t r.1 r.2 hb
              simp only [textT] at h
              split at h
              · simp only [Option.some.injEq, Prod.mk.injEq] at h
                obtain ⟨rfl, rfl, rfl⟩ := h; omega
              · cases h
          · rw [if_neg h4] at h
            have hk : k = 6 := by
              unfold signT at h
              split at h
              · simp at h; exact h.1.symm
              · split at h
                · simp at h; exact h.1.symm
                · split at h
                  · simp at h; exact h.1.symm
                  · split at h
                    · simp at h; exact h.1.symm
                    · split at h
                      · simp at h; exact h.1.symm
                      · cases h
            exact (hok.there (.inl hk)).2

/-- a token's word, as it is written -/
def wB (p : Int × ByteArray) : List UInt8 := tokW p.1 p.2.data.toList
/-- a token of a text -/
structure TokG (n : Nat) (p : Int × ByteArray) : Prop where
  rd : Rd (wB p) p.1 p.2.data.toList
  ne : p.1 ≠ 0
  le : p.2.size ≤ n

theorem scan_toks (n : Nat) : ∀ (d sz : Nat) (l : List UInt8) (L : List S34), l.length ≤ n → scanL d sz l = .ok L →
    ∃ P : List (Int × ByteArray), L.map (fun t => (t.f0, t.f1)) = P ++ [(0, ⟨#[]⟩)] ∧ P.length ≤ d ∧ ∀ p ∈ P, TokG n p := by
  intro d
  induction d with
  | zero =>
    intro sz l L hl h
    unfold scanL at h
    split at h
    · cases h
    · split at h
      · cases h; exact ⟨[], rfl, by simp, fun p hp => by cases hp⟩
      · cases h
  | succ d ih =>
    intro sz l L hl h
    unfold scanL at h
    obtain ⟨a, ha, hsk⟩ := skip_drop l
    rw [hsk] at h
    have hdl : (l.drop a).length ≤ n := by rw [List.length_drop]; omega
    split at h
    · cases h
    · split at h
      · cases h; exact ⟨[], rfl, by simp, fun p hp => by cases hp⟩
      · cases ht : tokL (l.drop a) with
        | none => rw [ht] at h; cases h
        | some r =>
          obtain ⟨k, x, m⟩ := r
          rw [ht] at h
          simp only at h
          cases hs : scanL d sz ((l.drop a).drop m) with
          | error e => rw [hs] at h; cases h
          | ok l' =>
            rw [hs] at h
            simp only [Except.map, Except.ok.injEq] at h
            subst h
            obtain ⟨P, h1, h2, h3⟩ := ih sz _ l' (by rw [List.length_drop]; omega) hs
            refine ⟨(k, ⟨x.toArray⟩) :: P, by simp [h1], by simp; omega, fun p hp => ?_⟩
            rcases List.mem_cons.1 hp with rfl | hp
            · have hlen := tok_len ht
              have hok := tok_ok ht
              exact ⟨rd_of_tok ht, by have := hok.lo; show k ≠ 0; omega, by rw [Lib.size_eq]; show x.length ≤ n; omega⟩
            · exact h3 p hp

theorem scan_err : ∀ (d sz : Nat) (l : List UInt8) (p : Nat), scanL d sz l = .error p → p ≤ sz := by
  intro d
  induction d with
  | zero =>
    intro sz l p h
    unfold scanL at h
    split at h
    · cases h; omega
    · split at h
      · cases h
      · cases h; omega
  | succ d ih =>
    intro sz l p h
    unfold scanL at h
    split at h
    · cases h; omega
    · split at h
      · cases h
      · split at h
        · cases h; omega
        · rename_i k x m _
          cases hs : scanL d sz ((skipL 0 [] l).1.drop m) with
          | error e => rw [hs] at h; simp [Except.map] at h; have := ih sz _ e hs; omega
          | ok l' => rw [hs] at h; simp [Except.map] at h

theorem join_eq : ∀ ws : List (List UInt8), Lib.join ws [32] = joinW ws
  | [] => rfl
  | [w] => by simp [joinW, Lib.join_one]
  | w :: v :: r => by
    have := join_eq (v :: r)
    rw [joinW, ← this]
    simp [Lib.join, List.intercalate]

theorem w_len (p : Int × ByteArray) : (wB p).length ≤ 2 * p.2.size + 2 := by
  have hq : ∀ q, (quoteL q p.2.data.toList).length ≤ 2 * p.2.size + 2 := fun q => by
    have := dbl_len q p.2.data.toList
    rw [← Lib.size_eq] at this
    simp [quoteL]; omega
  have hs : p.2.data.toList.length = p.2.size := (Lib.size_eq _).symm
  unfold wB tokW
  split
  · unfold nameW
    split
    · simp only; split
      · omega
      · exact hq 34
    · simp
  · split
    · exact hq 39
    · omega

theorem joinW_len (n : Nat) : ∀ ws : List (List UInt8), (∀ w ∈ ws, w.length ≤ n) → (joinW ws).length ≤ ws.length * (n + 1)
  | [], _ => by simp [joinW]
  | [w], h => by have := h w (List.mem_cons_self ..); simp [joinW]; omega
  | w :: v :: r, h => by
    have h1 := h w (List.mem_cons_self ..)
    have h2 := joinW_len n (v :: r) (fun u hu => h u (List.mem_cons_of_mem _ hu))
    rw [joinW, List.length_append, List.length_cons, List.length_cons, Nat.add_mul, Nat.one_mul]
    omega

theorem w64k {n : Int} (h0 : -9223372036854775808 ≤ n) (h1 : n ≤ 9223372036854775807) : wrap64 n = n := by unfold wrap64; omega

/-- how tokens are written -/
theorem show_ev (P : List (Int × ByteArray)) (L : List S34) (hL : L.map (fun t => (t.f0, t.f1)) = P ++ [(0, ⟨#[]⟩)]) (n : Nat) (hn : n ≤ 65536) (hP : P.length ≤ 1000) (hG : ∀ p ∈ P, TokG n p) :
    Ev (fun k => lex_Show.f k L) ⟨(joinW (P.map wB)).toArray⟩ := by
  have hlen : L.length = P.length + 1 := by have := congrArg List.length hL; simpa using this
  have hat : ∀ i (h : i < P.length), (rd_T34 L (i : Int)).f0 = P[i].1 ∧ (rd_T34 L (i : Int)).f1 = P[i].2 := by
    intro i h
    have h1 : i < L.length := by omega
    have h2 : rd_T34 L (i : Int) = L[i] := by unfold rd_T34; simp [h1]
    have h3 : (L.map fun t => (t.f0, t.f1))[i]? = some P[i] := by rw [hL, List.getElem?_append_left h]; simp [h]
    rw [List.getElem?_map, List.getElem?_eq_getElem h1] at h3
    have h4 : (L[i].f0, L[i].f1) = P[i] := by simpa using h3
    rw [h2, ← h4]; exact ⟨rfl, rfl⟩
  have hend : (rd_T34 L (P.length : Int)).f0 = 0 := by
    have h1 : P.length < L.length := by omega
    have h2 : rd_T34 L (P.length : Int) = L[P.length] := by unfold rd_T34; simp [h1]
    have h3 : (L.map fun t => (t.f0, t.f1))[P.length]? = some (0, ⟨#[]⟩) := by rw [hL]; simp
    rw [List.getElem?_map, List.getElem?_eq_getElem h1] at h3
    have h4 : (L[P.length].f0, L[P.length].f1) = ((0 : Int), (⟨#[]⟩ : ByteArray)) := by simpa using h3
    rw [h2]; exact (Prod.mk.inj h4).1
  have main : ∀ d i : Nat, i + d = P.length → Ev (fun k => lex_Show.l0 k ((P.take i).map fun p => (⟨(wB p).toArray⟩ : ByteArray)) L (L.length : Int) (i : Int)) ⟨(joinW (P.map wB)).toArray⟩ := by
    intro d
    induction d with
    | zero =>
      intro i hi
      have hi' : i = P.length := by omega
      subst hi'
      rw [List.take_length]
      have hj : xJoin.f (P.map fun p => (⟨(wB p).toArray⟩ : ByteArray)) ⟨#[32]⟩ = some ⟨(joinW (P.map wB)).toArray⟩ := by
        have e : (P.map fun p => (⟨(wB p).toArray⟩ : ByteArray)).map (·.data.toList) = P.map wB := by simp
        have e2 : (⟨#[32]⟩ : ByteArray).data.toList = [32] := rfl
        unfold xJoin.f
        rw [e, e2, join_eq, if_pos]
        have hw := joinW_len (2 * n + 2) (P.map wB) (fun w hw => by
          obtain ⟨p, hp, rfl⟩ := List.mem_map.1 hw
          have := w_len p; have := (hG p hp).le; omega)
        rw [List.length_map] at hw ⊢
        have h3 : P.length * (2 * n + 2 + 1) ≤ 1000 * 131075 := Nat.mul_le_mul hP (by omega)
        exact ⟨by omega, by omega⟩
      refine Ev.step (f := fun _ => some _) (fun k => ?_) (Ev.now _)
      simp only [lex_Show.l0]
      rw [if_pos (show (P.length : Int) < (L.length : Int) by omega), if_pos (show 0 ≤ (P.length : Int) by omega), if_pos (show (P.length : Int) < (L.length : Int) by omega), if_pos hend, hj, Option.bind_some]
    | succ d ih =>
      intro i hi
      have hlt : i < P.length := by omega
      obtain ⟨a1, a2⟩ := hat i hlt
      have hg := hG P[i] (List.getElem_mem hlt)
      have hne := hg.ne
      have hle := hg.le
      have hcl : ((P.take i).map fun p => (⟨(wB p).toArray⟩ : ByteArray)).length < 8796093022208 := by
        rw [List.length_map, List.length_take]; omega
      have hw1 : wrap64 ((i : Int) + 1) = ((i + 1 : Nat) : Int) := by rw [w64k (by omega) (by omega)]; omega
      have ih2 := ih (i + 1) (by omega)
      rw [List.take_succ_eq_append_getElem hlt, List.map_append] at ih2
      generalize ((P.take i).map fun p => (⟨(wB p).toArray⟩ : ByteArray)) = acc at *
      have q1 : (i : Int) < (L.length : Int) := by omega
      have q2 : 0 ≤ (i : Int) := by omega
      refine Ev.step (fun k => ?_) ih2
      simp only [lex_Show.l0]
      rw [if_pos q1, if_pos q2, if_pos q1, a1, a2, if_neg hne]
      by_cases h1 : P[i].1 = 1
      · have hx : xName.f P[i].2 = some (⟨(wB P[i]).toArray⟩, (nameW P[i].2.data.toList).2) := by unfold xName.f wB tokW; rw [if_pos h1]
        rw [if_pos h1, hx, Option.bind_some, if_pos hcl, hw1]; rfl
      · rw [if_neg h1]
        by_cases h5 : P[i].1 = 5
        · have hx : xQuoted.f P[i].2 39 = some ⟨(wB P[i]).toArray⟩ := by
            unfold xQuoted.f wB tokW; rw [if_neg h1, if_pos h5, if_pos ⟨rfl, by omega⟩]
          rw [if_pos h5, hx, Option.bind_some, if_pos hcl, hw1]; rfl
        · have hx : (⟨(wB P[i]).toArray⟩ : ByteArray) = P[i].2 := by unfold wB tokW; rw [if_neg h1, if_neg h5]
          rw [if_neg h5, if_pos hcl, hw1, ← hx]; rfl
  have h := main P.length 0 (by omega)
  unfold lex_Show.f
  rw [List.take_zero] at h
  exact h

end Go.Proofs.YtlaafpbhhnehgaaDoor
