/- a part of the claim: what the card leans on, out of the texts RP1, RP2 (put together by wip/tools/shake.py). -/
import Derived.Test.YthpkjkcfhipjhaaDoorSW2
section
namespace Go.Proofs.YthpkjkcfhipjhaaDoor
set_option linter.unusedVariables false
set_option linter.unusedSimpArgs false
open Go.RowKit
/-- a value that a machine can hold -/
def okV (x : V) : Prop := sV x = true ∧ I64 x.n ∧ U64 x.f
/-- n bytes of a number, the highest first -/
def beB : Nat → Nat → List UInt8
  | 0, _ => []
  | k + 1, n => beB k (n / 256) ++ [UInt8.ofNat (n % 256)]
/-- the number of these bytes -/
def numB (l : List UInt8) : Nat := l.foldl (fun a c => a * 256 + c.toNat) 0
theorem beB_len : ∀ k n, (beB k n).length = k
  | 0, _ => rfl
  | k + 1, n => by simp [beB, beB_len k]
theorem numB_snoc (l : List UInt8) (c : UInt8) : numB (l ++ [c]) = numB l * 256 + c.toNat := by simp [numB]
theorem numB_beB : ∀ k n, n < 256 ^ k → numB (beB k n) = n
  | 0, n, h => by simp at h; subst h; rfl
  | k + 1, n, h => by
    have hk : n / 256 < 256 ^ k := by rw [Nat.pow_succ] at h; omega
    rw [beB, numB_snoc, numB_beB k _ hk]
    have : (UInt8.ofNat (n % 256)).toNat = n % 256 := by simp
    rw [this]; omega
/-- two lists of bytes part at a place in both; the order is c -/
def Apart (l m : List UInt8) (c : Int) : Prop := ∃ p x y l' m', l = p ++ x :: l' ∧ m = p ++ y :: m' ∧ x ≠ y ∧ c = Lib.compareInt x.toNat y.toNat
theorem Apart.app {l m : List UInt8} {c : Int} (h : Apart l m c) (s t : List UInt8) : Apart (l ++ s) (m ++ t) c := by
  obtain ⟨p, x, y, l', m', rfl, rfl, hn, rfl⟩ := h
  exact ⟨p, x, y, l' ++ s, m' ++ t, by simp, by simp, hn, rfl⟩
theorem Apart.pre {l m : List UInt8} {c : Int} (h : Apart l m c) (q : List UInt8) : Apart (q ++ l) (q ++ m) c := by
  obtain ⟨p, x, y, l', m', rfl, rfl, hn, rfl⟩ := h
  exact ⟨q ++ p, x, y, l', m', by simp, by simp, hn, rfl⟩
theorem cb_pre : ∀ (q l m : List UInt8), Lib.compareBytes (q ++ l) (q ++ m) = Lib.compareBytes l m
  | [], _, _ => rfl
  | c :: q, l, m => by
    have := cb_pre q l m
    simp only [List.cons_append, Lib.compareBytes]
    simp [this]
theorem Apart.cb {l m : List UInt8} {c : Int} (h : Apart l m c) : Lib.compareBytes l m = c := by
  obtain ⟨p, x, y, l', m', rfl, rfl, hn, rfl⟩ := h
  rw [cb_pre]
  have h1 : x.toNat ≠ y.toNat := fun e => hn (UInt8.toNat_inj.1 e)
  simp only [Lib.compareBytes, Lib.compareInt]
  by_cases h : x < y
  · have := UInt8.lt_iff_toNat_lt.1 h
    simp [h]; omega
  · have h2 : y < x := by rw [UInt8.lt_iff_toNat_lt] at h ⊢; omega
    have := UInt8.lt_iff_toNat_lt.1 h2
    simp [h, h2]; omega
theorem beB_apart : ∀ (k a b : Nat), a < 256 ^ k → b < 256 ^ k → a ≠ b → Apart (beB k a) (beB k b) (Lib.compareInt a b)
  | 0, a, b, ha, hb, hn => by simp at ha hb; omega
  | k + 1, a, b, ha, hb, hn => by
    have ha' : a / 256 < 256 ^ k := by rw [Nat.pow_succ] at ha; omega
    have hb' : b / 256 < 256 ^ k := by rw [Nat.pow_succ] at hb; omega
    rw [beB, beB]
    by_cases h : a / 256 = b / 256
    · have hm : a % 256 ≠ b % 256 := by omega
      rw [h]
      have e1 : (UInt8.ofNat (a % 256)).toNat = a % 256 := by simp
      have e2 : (UInt8.ofNat (b % 256)).toNat = b % 256 := by simp
      refine ⟨beB k (b / 256), _, _, [], [], rfl, rfl, fun e => hm ?_, ?_⟩
      · rw [← e1, ← e2, e]
      · rw [e1, e2]
        apply ci_congr <;> omega
    · have := (beB_apart k (a / 256) (b / 256) ha' hb' h).app [UInt8.ofNat (a % 256)] [UInt8.ofNat (b % 256)]
      have e : Lib.compareInt (a / 256 : Nat) (b / 256 : Nat) = Lib.compareInt (a : Int) (b : Int) := by
        apply ci_congr <;> omega
      rw [e] at this
      exact this
/-- a text's bytes: behind a byte 0 stands 255 -/
def escT : List UInt8 → List UInt8
  | [] => []
  | c :: t => if c = 0 then 0 :: 255 :: escT t else c :: escT t
/-- the number that stands for a value of 8 bytes -/
def wordV (x : V) : Nat := if x.k = 3 then (rKey x.f).toNat else (x.n + 9223372036854775808).toNat
/-- a value's bytes -/
def encV (x : V) : List UInt8 := UInt8.ofNat x.k.toNat :: (if x.k = 1 ∨ x.k = 2 ∨ x.k = 3 then beB 8 (wordV x) else if x.k = 4 then escT x.t.data.toList ++ [0, 0] else [])
/-- a row's bytes -/
def encR (l : List V) : List UInt8 := l.flatMap encV
/-- the order of rows -/
def cmpL : List V → List V → Int
  | [], [] => 0
  | [], _ :: _ => -1
  | _ :: _, [] => 1
  | x :: a, y :: b => if cV x y ≠ 0 then cV x y else cmpL a b
theorem esc_apart : ∀ a b : List UInt8, a ≠ b → Apart (escT a ++ [0, 0]) (escT b ++ [0, 0]) (Lib.compareBytes a b)
  | [], [], h => absurd rfl h
  | [], c :: t, _ => by
    by_cases h : c = 0
    · subst h
      exact ⟨[0], 0, 255, [], escT t ++ [0, 0], rfl, by simp [escT], by decide, by rfl⟩
    · refine ⟨[], 0, c, [0], escT t ++ [0, 0], rfl, by simp [escT, h], fun e => h e.symm, ?_⟩
      have : c.toNat ≠ 0 := fun e => h (UInt8.toNat_inj.1 e)
      have : (0 : UInt8).toNat = 0 := rfl
      simp only [Lib.compareBytes]
      rw [this, eq_comm, ci_lt]; omega
  | c :: t, [], _ => by
    by_cases h : c = 0
    · subst h
      exact ⟨[0], 255, 0, escT t ++ [0, 0], [], by simp [escT], rfl, by decide, by rfl⟩
    · refine ⟨[], c, 0, escT t ++ [0, 0], [0], by simp [escT, h], rfl, h, ?_⟩
      have : c.toNat ≠ 0 := fun e => h (UInt8.toNat_inj.1 e)
      have : (0 : UInt8).toNat = 0 := rfl
      simp only [Lib.compareBytes]
      rw [this, eq_comm, ci_gt]; omega
  | c :: t, d :: u, h => by
    by_cases hcd : c = d
    · subst hcd
      have ht : t ≠ u := fun e => h (by rw [e])
      have ih := esc_apart t u ht
      have e : Lib.compareBytes (c :: t) (c :: u) = Lib.compareBytes t u := cb_pre [c] t u
      rw [e]
      by_cases h0 : c = 0
      · subst h0
        have := ih.pre [0, 255]
        simpa [escT] using this
      · have := ih.pre [c]
        simpa [escT, h0] using this
    · have hne : c.toNat ≠ d.toNat := fun e => hcd (UInt8.toNat_inj.1 e)
      have e : Lib.compareBytes (c :: t) (d :: u) = Lib.compareInt c.toNat d.toNat := Apart.cb ⟨[], c, d, t, u, rfl, rfl, hcd, rfl⟩
      rw [e]
      have E : ∀ (x : UInt8) (v : List UInt8), ∃ v', escT (x :: v) ++ [0, 0] = x :: v' := by
        intro x v
        by_cases hx : x = 0
        · subst hx; exact ⟨_, by simp [escT]; rfl⟩
        · exact ⟨_, by simp [escT, hx]; rfl⟩
      obtain ⟨v1, e1⟩ := E c t
      obtain ⟨v2, e2⟩ := E d u
      exact ⟨[], c, d, v1, v2, e1, e2, hcd, rfl⟩
theorem wordV_lt {x : V} (h : okV x) : wordV x < 256 ^ 8 := by
  obtain ⟨_, ⟨h1, h2⟩, h3, h4⟩ := h
  have e : 256 ^ 8 = 18446744073709551616 := by decide
  rw [e]
  unfold wordV rKey
  split
  · split <;> omega
  · omega
theorem kind_le {x : V} (h : sV x = true) : 0 ≤ x.k ∧ x.k ≤ 4 := by
  rcases sound_cases h with h | h | h | h | h <;> (have := h.1; omega)
theorem enc_apart (x y : V) (hx : okV x) (hy : okV y) (hn : x ≠ y) : Apart (encV x) (encV y) (cV x y) := by
  have kx := kind_le hx.1
  have ky := kind_le hy.1
  have hc := cV_eq x y hx.1 hy.1
  by_cases hk : x.k = y.k
  · rw [if_pos hk] at hc
    have hc0 : cV x y ≠ 0 := fun e => hn ((cV_same x y ⟨hx.1, hx.2.2⟩ ⟨hy.1, hy.2.2⟩).1 e)
    unfold encV
    rw [← hk]
    have hw : x.k = 1 ∨ x.k = 2 ∨ x.k = 3 → Apart (beB 8 (wordV x)) (beB 8 (wordV y)) (cV x y) := by
      intro h123
      have hwc : cV x y = Lib.compareInt (wordV x) (wordV y) := by
        rw [hc]
        obtain ⟨sx, ⟨ax, bx⟩, cx, dx⟩ := hx
        obtain ⟨sy, ⟨ay, by'⟩, cy, dy⟩ := hy
        by_cases h3 : x.k = 3
        · rw [if_pos h3, cmpF_key]
          have px : plainI x.f = x.f := by rcases sound_cases sx with h | h | h | h | h <;> first | exact h.2.2.1 | (have := h.1; omega)
          have py : plainI y.f = y.f := by rcases sound_cases sy with h | h | h | h | h <;> first | exact h.2.2.1 | (have := h.1; omega)
          have l1 := fkey_lt ⟨cx, dx⟩ ⟨cy, dy⟩ px py
          have l2 := fkey_lt ⟨cy, dy⟩ ⟨cx, dx⟩ py px
          have r1 : 0 ≤ rKey x.f := by unfold rKey; split <;> omega
          have r2 : 0 ≤ rKey y.f := by unfold rKey; split <;> omega
          unfold wordV
          rw [if_pos h3, if_pos (hk ▸ h3)]
          apply ci_congr
          · rw [l1]; omega
          · rw [l2]; omega
        · have h4 : x.k ≠ 4 := by omega
          rw [if_neg h3, if_neg h4]
          unfold wordV
          rw [if_neg h3, if_neg (fun e => h3 (hk.trans e))]
          apply ci_congr <;> omega
      rw [hwc]
      refine beB_apart 8 _ _ (wordV_lt hx) (wordV_lt hy) (fun e => hc0 ?_)
      rw [hwc, e]
      exact (ci_eq _ _).2 rfl
    by_cases h123 : x.k = 1 ∨ x.k = 2 ∨ x.k = 3
    · rw [if_pos h123, if_pos h123]
      exact (hw h123).pre [_]
    · rw [if_neg h123, if_neg h123]
      by_cases h4 : x.k = 4
      · rw [if_pos h4, if_pos h4]
        have h3 : x.k ≠ 3 := by omega
        rw [if_neg h3, if_pos h4] at hc
        have ht : x.t.data.toList ≠ y.t.data.toList := by
          intro e
          rw [e, (cb_same _ _).2 rfl] at hc
          exact hc0 hc
        rw [hc]
        exact (esc_apart _ _ ht).pre [_]
      · exfalso
        rcases sound_cases hx.1 with h | h | h | h | h
        · rcases sound_cases hy.1 with h' | h' | h' | h' | h'
          · apply hn
            obtain ⟨a1, a2, a3, a4⟩ := h
            obtain ⟨b1, b2, b3, b4⟩ := h'
            cases x; cases y; simp_all
          all_goals (have := h.1; have := h'.1; omega)
        all_goals (have := h.1; omega)
  · rw [if_neg hk] at hc
    rw [hc]
    have e1 : (UInt8.ofNat x.k.toNat).toNat = x.k.toNat := by simp; omega
    have e2 : (UInt8.ofNat y.k.toNat).toNat = y.k.toNat := by simp; omega
    refine ⟨[], _, _, _, _, rfl, rfl, fun e => hk ?_, ?_⟩
    · have := congrArg UInt8.toNat e
      rw [e1, e2] at this; omega
    · rw [e1, e2]; apply ci_congr <;> omega
theorem encV_ne (x : V) : encV x ≠ [] := by unfold encV; simp
theorem enc_order : ∀ a b : List V, (∀ x ∈ a, okV x) → (∀ x ∈ b, okV x) → Lib.compareBytes (encR a) (encR b) = cmpL a b
  | [], [], _, _ => rfl
  | [], y :: b, _, _ => by
    show Lib.compareBytes [] (encV y ++ encR b) = -1
    cases h : encV y with
    | nil => exact absurd h (encV_ne y)
    | cons c t => rfl
  | x :: a, [], _, _ => by
    show Lib.compareBytes (encV x ++ encR a) [] = 1
    cases h : encV x with
    | nil => exact absurd h (encV_ne x)
    | cons c t => rfl
  | x :: a, y :: b, ha, hb => by
    have hx := ha x (by simp)
    have hy := hb y (by simp)
    show Lib.compareBytes (encV x ++ encR a) (encV y ++ encR b) = if cV x y ≠ 0 then cV x y else cmpL a b
    by_cases h : x = y
    · subst h
      rw [cb_pre, if_neg (by simpa using (cV_same x x ⟨hx.1, hx.2.2⟩ ⟨hx.1, hx.2.2⟩).2 rfl)]
      exact enc_order a b (fun z hz => ha z (by simp [hz])) (fun z hz => hb z (by simp [hz]))
    · rw [if_pos (fun e => h ((cV_same x y ⟨hx.1, hx.2.2⟩ ⟨hy.1, hy.2.2⟩).1 e))]
      exact ((enc_apart x y hx hy h).app _ _).cb
/-- the next text -/
def decT : List UInt8 → List UInt8 → Except Int (List UInt8 × List UInt8)
  | _, [] => .error 3
  | acc, c :: l => if c ≠ 0 then decT (acc ++ [c]) l else match l with
    | [] => .error 3
    | d :: l' => if d = 0 then (if acc.length ≤ 4096 then .ok (acc, l') else .error 12) else if d = 255 then decT (acc ++ [0]) l' else .error 4
/-- a float's bits from its number -/
def backI (n : Int) : Int := if 9223372036854775808 ≤ n then n - 9223372036854775808 else 18446744073709551615 - n
/-- the value of 8 bytes -/
def ofWord (k : Int) (n : Nat) : V := if k = 3 then ⟨3, 0, backI n, ⟨#[]⟩⟩ else ⟨k, (n : Int) - 9223372036854775808, 0, ⟨#[]⟩⟩
/-- the next value -/
def decV : List UInt8 → Except Int (V × List UInt8)
  | [] => .error 3
  | c :: l =>
    if c.toNat = 0 then .ok (⟨0, 0, 0, ⟨#[]⟩⟩, l)
    else if c.toNat ≤ 3 then (if l.length < 8 then .error 3 else if sV (ofWord c.toNat (numB (l.take 8))) then .ok (ofWord c.toNat (numB (l.take 8)), l.drop 8) else .error 4)
    else if c.toNat = 4 then (match decT [] l with | .ok (t, l') => .ok (⟨4, 0, 0, ⟨t.toArray⟩⟩, l') | .error e => .error e)
    else .error 4
/-- the values of these bytes, behind those that are read -/
def decR : Nat → List V → List UInt8 → Except Int (List V)
  | 0, _, _ => .error 0
  | k + 1, acc, l => if l = [] then .ok acc else if acc.length < 1024 then (match decV l with | .ok (v, l') => decR k (acc ++ [v]) l' | .error e => .error e) else .error 1
end Go.Proofs.YthpkjkcfhipjhaaDoor
end
section
namespace Go.Proofs.YthpkjkcfhipjhaaDoor
set_option linter.unusedVariables false
set_option linter.unusedSimpArgs false
open Go.RowKit
theorem decT_cons (acc : List UInt8) (c : UInt8) (l : List UInt8) (h : c ≠ 0) : decT acc (c :: l) = decT (acc ++ [c]) l := by rw [decT.eq_def]; simp only; rw [if_pos h]
theorem decT_end (acc l : List UInt8) : decT acc (0 :: 0 :: l) = if acc.length ≤ 4096 then .ok (acc, l) else .error 12 := by rw [decT]; simp
theorem decT_esc0 (acc l : List UInt8) : decT acc (0 :: 255 :: l) = decT (acc ++ [0]) l := by rw [decT]; simp
theorem decT_esc : ∀ (t acc rest : List UInt8), acc.length + t.length ≤ 4096 → decT acc (escT t ++ 0 :: 0 :: rest) = .ok (acc ++ t, rest)
  | [], acc, rest, h => by
    show decT acc (0 :: 0 :: rest) = _
    rw [decT_end, if_pos (by simpa using h), List.append_nil]
  | c :: t, acc, rest, h => by
    have h2 : (acc ++ [c]).length + t.length ≤ 4096 := by simp at h ⊢; omega
    have ih := decT_esc t (acc ++ [c]) rest h2
    by_cases h0 : c = 0
    · subst h0
      have e : escT (0 :: t) = 0 :: 255 :: escT t := by simp [escT]
      rw [e, List.cons_append, List.cons_append, decT_esc0, ih]; simp
    · have e : escT (c :: t) = c :: escT t := by simp [escT, h0]
      rw [e, List.cons_append, decT_cons _ _ _ h0, ih]; simp
theorem back_key {f : Int} (h : U64 f) : backI ((rKey f).toNat : Int) = f := by
  obtain ⟨h0, h1⟩ := h
  unfold backI rKey
  split <;> split <;> omega
theorem kindN {x : V} (h : sV x = true) : (UInt8.ofNat x.k.toNat).toNat = x.k.toNat := by
  have := kind_le h
  simp; omega
theorem V_ext {x y : V} (h1 : x.k = y.k) (h2 : x.n = y.n) (h3 : x.f = y.f) (h4 : x.t = y.t) : x = y := by cases x; cases y; simp_all
theorem word_facts {x : V} (h : sV x = true) (h123 : x.k = 1 ∨ x.k = 2 ∨ x.k = 3) : x.t = ⟨#[]⟩ ∧ (x.k = 3 → x.n = 0) ∧ (x.k ≠ 3 → x.f = 0) := by
  rcases sound_cases h with c | c | c | c | c
  · have := c.1; omega
  · exact ⟨c.2.2.2, fun e => by have := c.1; omega, fun _ => c.2.2.1⟩
  · exact ⟨c.2.2, fun e => by have := c.1; omega, fun _ => c.2.1⟩
  · exact ⟨c.2.2.2, fun _ => c.2.1, fun e => absurd c.1 e⟩
  · have := c.1; omega
theorem ofWord_eq (x : V) (h : okV x) (h123 : x.k = 1 ∨ x.k = 2 ∨ x.k = 3) : ofWord x.k (wordV x) = x := by
  obtain ⟨hs, ⟨i1, i2⟩, hU⟩ := h
  obtain ⟨ht, h3, hf⟩ := word_facts hs h123
  unfold ofWord wordV
  by_cases hk : x.k = 3
  · rw [if_pos hk, if_pos hk, back_key hU]
    exact V_ext hk.symm (h3 hk).symm rfl ht.symm
  · rw [if_neg hk, if_neg hk]
    refine V_ext rfl ?_ (hf hk).symm ht.symm
    simp only; omega
theorem decV_enc (x : V) (h : okV x) (rest : List UInt8) : decV (encV x ++ rest) = .ok (x, rest) := by
  have hk := kind_le h.1
  have hkn := kindN h.1
  have hw := wordV_lt h
  obtain ⟨hs, hI, hU⟩ := h
  unfold encV
  rw [List.cons_append, decV, hkn]
  rcases sound_cases hs with c | c | c | c | c
  · obtain ⟨c1, c2, c3, c4⟩ := c
    rw [if_pos (by omega), if_neg (by omega), if_neg (by omega)]
    cases x; simp_all
  all_goals rw [if_neg (by omega)]
  case inr.inr.inr.inr =>
    obtain ⟨c1, c2, c3, c4⟩ := c
    rw [if_neg (by omega), if_pos (by omega), if_neg (by omega), if_pos c1]
    have hl4 : x.t.data.toList.length ≤ 4096 := by rw [← Lib.size_eq]; exact c4
    have := decT_esc x.t.data.toList [] rest (by simp only [List.length_nil]; omega)
    simp only [List.append_assoc, List.cons_append, List.nil_append] at this ⊢
    rw [this]
    cases x; simp_all
  all_goals
    have h123 : x.k = 1 ∨ x.k = 2 ∨ x.k = 3 := by omega
    have hlen : (beB 8 (wordV x)).length = 8 := beB_len _ _
    rw [if_pos (by omega), if_pos h123, if_neg (by rw [List.length_append, hlen]; omega)]
    have et : (beB 8 (wordV x) ++ rest).take 8 = beB 8 (wordV x) := by rw [List.take_append_of_le_length (by omega), List.take_of_length_le (by omega)]
    have ed : (beB 8 (wordV x) ++ rest).drop 8 = rest := by rw [List.drop_append_of_le_length (by omega), List.drop_of_length_le (by omega), List.nil_append]
    rw [et, ed, numB_beB 8 _ hw]
    have ex : ofWord (x.k.toNat : Int) (wordV x) = x := by rw [show (x.k.toNat : Int) = x.k by omega]; exact ofWord_eq x ⟨hs, hI, hU⟩ h123
    rw [ex, if_pos hs]
theorem decR_enc : ∀ (l acc : List V) (k : Nat), (∀ x ∈ l, okV x) → acc.length + l.length ≤ 1024 → l.length < k → decR k acc (encR l) = .ok (acc ++ l)
  | [], acc, k + 1, _, _, _ => by rw [decR]; simp [encR]
  | x :: l, acc, k + 1, h, hl, hk => by
    have e : encR (x :: l) = encV x ++ encR l := rfl
    rw [e, decR, if_neg (by intro h'; exact encV_ne x (List.append_eq_nil_iff.1 h').1), if_pos (by simp at hl; omega), decV_enc x (h x (by simp))]
    simp only
    rw [decR_enc l (acc ++ [x]) k (fun y hy => h y (by simp [hy])) (by simp at hl ⊢; omega) (by simp at hk; omega)]
    simp
theorem enc_len_le (l : List V) : l.length ≤ (encR l).length := by
  induction l with
  | nil => simp
  | cons x l ih =>
    have e : encR (x :: l) = encV x ++ encR l := rfl
    rw [e, List.length_append, List.length_cons]
    have : 0 < (encV x).length := List.length_pos_iff.2 (encV_ne x)
    omega
end Go.Proofs.YthpkjkcfhipjhaaDoor
end
