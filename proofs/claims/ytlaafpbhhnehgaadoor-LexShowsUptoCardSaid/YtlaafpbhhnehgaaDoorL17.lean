/- lex.Scan: the tokens of a text, or where its first fault is. -/
import Derived.Test.YtlaafpbhhnehgaaDoorL16
import Derived.Deep.RegionLaw
import Derived.Deep.AppendLies
import Derived.BigRegion
import Derived.Test.YtlaafpbhhnehgaaDoorPLXx0
namespace Go.Proofs.YtlaafpbhhnehgaaDoor
set_option linter.unusedVariables false
set_option linter.unusedSimpArgs false
open Go.RowKit Go.Proofs.YtlaafpbhhnehgaaDoorW.PrintWords Go.Proofs.YtlaafpbhhnehgaaDoorW.PrintLast PLX

theorem betL_le (c : UInt8) : ∀ (l : List UInt8) (t : List UInt8) (m : Nat), betL c l = some (t, m) → 1 ≤ m ∧ m ≤ l.length
  | [], _, _, h => by simp [betL] at h
  | [d], t, m, h => by
    by_cases hd : d = c
    · simp [betL, hd] at h; simp; omega
    · simp [betL, hd] at h
  | d :: e :: l, t, m, h => by
    by_cases hd : d = c
    · by_cases he : e = c
      · subst hd; subst he
        rw [betL_two] at h
        cases hb : betL e l with
        | none => rw [hb] at h; simp at h
        | some r =>
          rw [hb] at h
          have := betL_le e l r.1 r.2 hb
          simp at h
          simp; omega
      · simp [betL, hd, he] at h; simp; omega
    · rw [betL_ne _ _ _ hd] at h
      cases hb : betL c (e :: l) with
      | none => rw [hb] at h; simp at h
      | some r =>
        rw [hb] at h
        have := betL_le c (e :: l) r.1 r.2 hb
        simp at h this
        simp; omega
theorem tok_le {l : List UInt8} {k : Int} {x : List UInt8} {m : Nat} (h : tokL l = some (k, x, m)) : 1 ≤ m ∧ m ≤ l.length := by
  match l, h with
  | c :: t, h =>
    rw [tokL] at h
    by_cases h1 : isLet c.toNat = true
    · rw [if_pos h1] at h
      have hi : isInn c.toNat = true := by simp [isInn, h1]
      have hm : m = runL isInn (c :: t) := by
        unfold wordT at h
        split at h
        · simp at h; exact h.2.2.symm
        · split at h
          · simp at h; exact h.2.2.symm
          · simp at h
      rw [hm]
      exact ⟨by rw [runL, if_pos hi]; omega, runL_le _ _⟩
    · rw [if_neg h1] at h
      by_cases h2 : isDig c.toNat = true
      · rw [if_pos h2] at h
        have hr1 : 1 ≤ runL isDig (c :: t) := by rw [runL, if_pos h2]; omega
        have hr2 := runL_le isDig (c :: t)
        unfold numT at h
        split at h
        · rename_i hd
          have hr3 := runL_le isDig ((c :: t).drop (runL isDig (c :: t) + 1))
          rw [List.length_drop] at hr3
          have hd3 : runL isDig (c :: t) + 1 < (c :: t).length := by
            unfold dotD at hd
            by_cases hc : runL isDig (c :: t) + 1 < (c :: t).length
            · exact hc
            · exfalso
              have hl : ((c :: t).drop (runL isDig (c :: t))).length ≤ 1 := by rw [List.length_drop]; omega
              match hq : (c :: t).drop (runL isDig (c :: t)) with
              | [] => rw [hq] at hd; simp at hd
              | [a] => rw [hq] at hd; simp at hd
              | a :: b :: r => rw [hq] at hl; simp at hl
          generalize runL isDig ((c :: t).drop (runL isDig (c :: t) + 1)) = r2 at h hr3
          generalize runL isDig (c :: t) = r1 at *
          split at h
          · simp only [Option.some.injEq, Prod.mk.injEq] at h; omega
          · simp at h
        · split at h
          · simp at h; omega
          · simp at h
      · rw [if_neg h2] at h
        by_cases h3 : c = 34
        · rw [if_pos h3] at h
          cases hb : betL 34 t with
          | none => rw [hb] at h; simp [nameT] at h
          | some r =>
            rw [hb] at h
            have := betL_le 34 t r.1 r.2 hb
            simp only [nameT] at h
            split at h
            · simp at h; simp; omega
            · simp at h
        · rw [if_neg h3] at h
          by_cases h4 : c = 39
          · rw [if_pos h4] at h
            cases hb : betL 39 t with
            | none => rw [hb] at h; simp [textT] at h
            | some r =>
              rw [hb] at h
              have := betL_le 39 t r.1 r.2 hb
              simp only [textT] at h
              split at h
              · simp at h; simp; omega
              · simp at h
          · rw [if_neg h4] at h
            have two : ∀ i, Lib.hasPrefix (c :: t) (twoS i) = true → 2 ≤ (c :: t).length := by
              intro i hi
              have hl : (twoS i).length = 2 := by unfold twoS; split <;> rfl
              have := List.IsPrefix.length_le (List.isPrefixOf_iff_prefix.1 hi)
              omega
            unfold signT at h
            split at h
            · rename_i hh; have := two 0 hh; simp at h this; simp; omega
            · split at h
              · rename_i hh; have := two 1 hh; simp at h this; simp; omega
              · split at h
                · rename_i hh; have := two 2 hh; simp at h this; simp; omega
                · split at h
                  · rename_i hh; have := two 3 hh; simp at h this; simp; omega
                  · split at h
                    · simp at h; simp; omega
                    · simp at h

/-- the tokens from here on, at most so many, of a text of so many letters; else the place of the first fault -/
def scanL : Nat → Nat → List UInt8 → Except Nat (List S34)
  | 0, sz, l => if (skipL 0 [] l).2 = false then .error (sz - (skipL 0 [] l).1.length) else if (skipL 0 [] l).1 = [] then .ok [⟨0, ⟨#[]⟩, sz⟩] else .error (sz - (skipL 0 [] l).1.length)
  | d + 1, sz, l =>
    if (skipL 0 [] l).2 = false then .error (sz - (skipL 0 [] l).1.length) else if (skipL 0 [] l).1 = [] then .ok [⟨0, ⟨#[]⟩, sz⟩] else
    match tokL (skipL 0 [] l).1 with
    | none => .error (sz - (skipL 0 [] l).1.length)
    | some (k, t, m) => (scanL d sz ((skipL 0 [] l).1.drop m)).map (fun r => (⟨k, ⟨t.toArray⟩, ((sz - (skipL 0 [] l).1.length : Nat) : Int)⟩ : S34) :: r)

theorem inf34 : (Tryd.prog.info? 34).map (fun i => (i.zero, i.size, i.bytes)) = some (some (.agg #[(.int .i64 0), (.string ⟨#[]⟩), (.int .i64 0)]), 3, 32) := by kernel_rfl

/-- what a scan answers -/
def OutS (r : Except Nat (List S34)) (w : World) (e : Ending) (w' : World) : Prop :=
  match r with
  | .ok l => ∃ v, e = .returned (.tuple #[v, .int .i64 0, .int .i64 0]) ∧ Kd.R k34 34 w' w.heap.size (fun _ => True) v l ∧ Below w.heap.size w w'
  | .error p => e = .returned (.tuple #[.slice none 0 0, .int .i64 p, .int .i64 20]) ∧ Below w.heap.size w w'

theorem Fr.cell {b : Nat} {w w' : World} (h : Fr b w w') {k : Nat} (hk : k < w.heap.size) (hb : k ≠ b) (o : Nat) : w'.cell? ⟨k, o, none⟩ = w.cell? ⟨k, o, none⟩ := World.cell?_of_block (w := w) (h.block k hk hb)
theorem Fr.frozen {b : Nat} {w w' : World} (h : Fr b w w') {k : Nat} (hk : k < w.heap.size) (hb : k ≠ b) (o : Nat) : w'.frozen? ⟨k, o, none⟩ = w.frozen? ⟨k, o, none⟩ := World.frozen?_of_block (w := w) (h.block k hk hb)

/-- the state of the loop: block B the tokens, B + 1 the place, B + 2 the error, B + 3 the scanner -/
structure Lp (B : Nat) (s : ByteArray) (w wr : World) (p : Nat) (toks : List S34) (v : Value) : Prop where
  sc : Sc wr (B + 1 + 1 + 1) s p
  below : Below B w wr
  c0 : wr.cell? ⟨B, 0, none⟩ = some v
  c1 : wr.cell? ⟨B + 1, 0, none⟩ = some (.int .i64 0)
  c2 : wr.cell? ⟨B + 1 + 1, 0, none⟩ = some (.int .i64 0)
  f0 : wr.frozen? ⟨B, 0, none⟩ = false
  f1 : wr.frozen? ⟨B + 1, 0, none⟩ = false
  f2 : wr.frozen? ⟨B + 1 + 1, 0, none⟩ = false
  row : Kd.R k34 34 wr (B + 4) (fun k => B + 4 ≤ k) v toks

theorem Lp.lt {B : Nat} {s : ByteArray} {w wr : World} {p : Nat} {toks : List S34} {v : Value} (h : Lp B s w wr p toks v) : B + 1 + 1 + 1 < wr.heap.size := h.sc.lt
theorem Lp.fr {B : Nat} {s : ByteArray} {w wr w1 : World} {p q : Nat} {toks : List S34} {v : Value} (h : Lp B s w wr p toks v) (hF : Fr (B + 1 + 1 + 1) wr w1) (hS : Sc w1 (B + 1 + 1 + 1) s q) : Lp B s w w1 q toks v := by
  have hl := h.lt
  refine ⟨hS, hF.below h.below (by omega) (by omega), ?_, ?_, ?_, ?_, ?_, ?_, ?_⟩
  · rw [hF.cell (by omega) (by omega)]; exact h.c0
  · rw [hF.cell (by omega) (by omega)]; exact h.c1
  · rw [hF.cell (by omega) (by omega)]; exact h.c2
  · rw [hF.frozen (by omega) (by omega)]; exact h.f0
  · rw [hF.frozen (by omega) (by omega)]; exact h.f1
  · rw [hF.frozen (by omega) (by omega)]; exact h.f2
  · exact Kd.R_step h.row (fun k hk hlt => hF.block k hlt (by omega))
theorem Lp.bl {B : Nat} {s : ByteArray} {w wr w1 : World} {p : Nat} {toks : List S34} {v : Value} (h : Lp B s w wr p toks v) (hb : Below wr.heap.size wr w1) : Lp B s w w1 p toks v := h.fr (.of hb) (h.sc.below hb)

/-- how many tokens there are -/
def tokN (w : World) (B : Nat) : Nat := match w.cell? ⟨B, 0, none⟩ with | some (.slice _ n _) => n | _ => 0
theorem Lp.len {B : Nat} {s : ByteArray} {w wr : World} {p : Nat} {toks : List S34} {v : Value} (h : Lp B s w wr p toks v) : ∃ A c, v = .slice A toks.length c ∧ tokN wr B = toks.length := by
  obtain ⟨A, c, hv, hl, hr⟩ := Kd.R_reads h.row
  exact ⟨A, c, hv, by unfold tokN; rw [h.c0, hv]⟩

theorem outS_ok {R : Except Nat (List S34)} {l : List S34} {v : Value} {w w' : World} {e : Ending} (hR : R = .ok l) (he : e = .returned (.tuple #[v, .int .i64 0, .int .i64 0])) (hr : Kd.R k34 34 w' w.heap.size (fun _ => True) v l) (hb : Below w.heap.size w w') : OutS R w e w' := by subst hR; exact ⟨v, he, hr, hb⟩
theorem scan_done {d sz : Nat} {l : List UInt8} (h : skipL 0 [] l = ([], true)) : scanL d sz l = .ok [⟨0, ⟨#[]⟩, sz⟩] := by
  cases d <;> simp [scanL, h]
theorem scan_e {s : ByteArray} {p q : Nat} {R : Except Nat (List S34)} {toks : List S34} {d : Nat} (hq : q = s.size) (h : skipL 0 [] (s.data.toList.drop p) = (s.data.toList.drop q, true)) (he : R = (scanL d s.size (s.data.toList.drop p)).map (toks ++ ·)) : R = .ok (toks ++ [⟨0, ⟨#[]⟩, (s.size : Int)⟩]) := by
  rw [he, scan_done]
  · rfl
  · rw [h, hq, List.drop_of_length_le (by rw [← Lib.size_eq]; exact Nat.le_refl _)]
theorem rowS {B : Nat} {w3 w9 : World} {v v0 v1 v2 : Value} {l : List S34} (h : Kd.R k34 34 w3 (B + 4) (fun k => B + 4 ≤ k) v l) (hb : Below (((w3.setCell ⟨B, 0, none⟩ v0).setCell ⟨B + 1, 0, none⟩ v1).setCell ⟨B + 1 + 1, 0, none⟩ v2).heap.size (((w3.setCell ⟨B, 0, none⟩ v0).setCell ⟨B + 1, 0, none⟩ v1).setCell ⟨B + 1 + 1, 0, none⟩ v2) w9) : Kd.R k34 34 w9 B (fun _ => True) v l := by
  have h1 := Kd.R_far h (p := ⟨B, 0, none⟩) (fun k hk => by simp; omega) v0
  have h2 := Kd.R_far h1 (p := ⟨B + 1, 0, none⟩) (fun k hk => by simp; omega) v1
  have h3 := Kd.R_far h2 (p := ⟨B + 1 + 1, 0, none⟩) (fun k hk => by simp; omega) v2
  exact Kd.R_mono (Kd.R_lower (Kd.R_below h3 hb) (by omega)) (fun _ _ => trivial)
theorem outS_err {R : Except Nat (List S34)} {q : Nat} {w w' : World} {e : Ending} (hR : R = .error q) (he : e = .returned (.tuple #[.slice none 0 0, .int .i64 q, .int .i64 20])) (hb : Below w.heap.size w w') : OutS R w e w' := by subst hR; exact ⟨he, hb⟩
theorem scan_fault {d sz : Nat} {l r : List UInt8} (h : skipL 0 [] l = (r, false)) : scanL d sz l = .error (sz - r.length) := by
  cases d <;> simp [scanL, h]
theorem scan_f {s : ByteArray} {p q : Nat} {R : Except Nat (List S34)} {toks : List S34} {d : Nat} (hq : q ≤ s.size) (h : skipL 0 [] (s.data.toList.drop p) = (s.data.toList.drop q, false)) (he : R = (scanL d s.size (s.data.toList.drop p)).map (toks ++ ·)) : R = .error q := by
  rw [he, scan_fault h, List.length_drop, ← Lib.size_eq, show s.size - (s.size - q) = q by omega]; rfl

theorem lp_next {B : Nat} {s : ByteArray} {w wd w5 : World} {q r : Nat} {toks toks' : List S34} {v v5 : Value} {n : Int} (h : Lp B s w wd q toks v) (hb : Below (B + 4) wd w5) (ho : Kd.R k34 34 w5 (B + 4) (fun k => B + 4 ≤ k) v5 toks') (hn : n = (r : Int)) :
    Lp B s w ((w5.setCell ⟨B, 0, none⟩ v5).setCell ⟨B + 1 + 1 + 1, 1, none⟩ (.int .i64 n)) r toks' v5 := by
  subst hn
  obtain ⟨⟨s0, s1, sf⟩, hbel, c0, c1, c2, f0, f1, f2, hrow⟩ := h
  have e0 := (hb.cell (p := ⟨B, 0, none⟩) (by simp)).trans c0
  have e1 := (hb.cell (p := ⟨B + 1, 0, none⟩) (by simp)).trans c1
  have e2 := (hb.cell (p := ⟨B + 1 + 1, 0, none⟩) (by simp)).trans c2
  have e3 := (hb.cell (p := ⟨B + 1 + 1 + 1, 0, none⟩) (by simp)).trans s0
  have e4 := (hb.cell (p := ⟨B + 1 + 1 + 1, 1, none⟩) (by simp)).trans s1
  have g0 := (hb.frozen (p := ⟨B, 0, none⟩) (by simp)).trans f0
  have g1 := (hb.frozen (p := ⟨B + 1, 0, none⟩) (by simp)).trans f1
  have g2 := (hb.frozen (p := ⟨B + 1 + 1, 0, none⟩) (by simp)).trans f2
  have g4 := (hb.frozen (p := ⟨B + 1 + 1 + 1, 1, none⟩) (by simp)).trans sf
  refine ⟨⟨by simp [go_sem, *], by simp [go_sem, *], by simp [go_sem, *]⟩, ((hbel.trans (hb.mono (by omega))).setCell (by simp) _).setCell (by simp; omega) _, by simp [go_sem, *], by simp [go_sem, *], by simp [go_sem, *], by simp [go_sem, *], by simp [go_sem, *], by simp [go_sem, *], ?_⟩
  exact Kd.R_far (Kd.R_far ho (p := ⟨B, 0, none⟩) (fun k hk => by simp; omega) v5) (p := ⟨B + 1 + 1 + 1, 1, none⟩) (fun k hk => by simp; omega) _
theorem dn {s : ByteArray} {q : Nat} (hq : q ≤ s.size) (hn : ¬ q = s.size) : s.data.toList.drop q ≠ [] := by
  intro h
  have := congrArg List.length h
  rw [List.length_drop, ← Lib.size_eq] at this; simp at this; omega
theorem scan_n {s : ByteArray} {p q : Nat} {R : Except Nat (List S34)} {toks : List S34} {d : Nat} (hq : q ≤ s.size) (hn : ¬ q = s.size) (h : skipL 0 [] (s.data.toList.drop p) = (s.data.toList.drop q, true)) (hr : tokL (s.data.toList.drop q) = none) (he : R = (scanL d s.size (s.data.toList.drop p)).map (toks ++ ·)) : R = .error q := by
  have e : scanL d s.size (s.data.toList.drop p) = .error (s.size - (s.data.toList.drop q).length) := by
    cases d <;> simp only [scanL, h, if_neg (dn hq hn), hr] <;> rfl
  rw [he, e, List.length_drop, ← Lib.size_eq, show s.size - (s.size - q) = q by omega]; rfl
theorem scan_o {s : ByteArray} {p q : Nat} {R : Except Nat (List S34)} {toks : List S34} (hq : q ≤ s.size) (hn : ¬ q = s.size) (h : skipL 0 [] (s.data.toList.drop p) = (s.data.toList.drop q, true)) (hl : ¬ toks.length < 1000) (he : R = (scanL (1000 - toks.length) s.size (s.data.toList.drop p)).map (toks ++ ·)) : R = .error q := by
  have e : scanL (1000 - toks.length) s.size (s.data.toList.drop p) = .error (s.size - (s.data.toList.drop q).length) := by
    rw [show 1000 - toks.length = 0 by omega]
    simp only [scanL, h, if_neg (dn hq hn)]; rfl
  rw [he, e, List.length_drop, ← Lib.size_eq, show s.size - (s.size - q) = q by omega]; rfl
theorem scan_t {s : ByteArray} {p q : Nat} {R : Except Nat (List S34)} {toks : List S34} {k : Int} {x : List UInt8} {m : Nat} (hq : q ≤ s.size) (hn : ¬ q = s.size) (h : skipL 0 [] (s.data.toList.drop p) = (s.data.toList.drop q, true)) (hr : tokL (s.data.toList.drop q) = some (k, x, m)) (hl : toks.length < 1000) (he : R = (scanL (1000 - toks.length) s.size (s.data.toList.drop p)).map (toks ++ ·)) :
    R = (scanL (1000 - (toks ++ [(⟨k, ⟨x.toArray⟩, (q : Int)⟩ : S34)]).length) s.size (s.data.toList.drop (q + m))).map ((toks ++ [(⟨k, ⟨x.toArray⟩, (q : Int)⟩ : S34)]) ++ ·) := by
  obtain ⟨d, hd⟩ : ∃ d, 1000 - toks.length = d + 1 := ⟨999 - toks.length, by omega⟩
  have hd2 : 1000 - (toks ++ [(⟨k, ⟨x.toArray⟩, (q : Int)⟩ : S34)]).length = d := by simp; omega
  rw [he, hd, hd2]
  have hl2 : s.size - (s.data.toList.drop q).length = q := by rw [List.length_drop, ← Lib.size_eq]; omega
  simp only [scanL, h, if_neg (dn hq hn), hr, hl2, List.drop_drop]
  cases scanL d s.size (s.data.toList.drop (q + m)) <;> simp [Except.map]

end Go.Proofs.YtlaafpbhhnehgaaDoor
