/- The document's Sound, Compare, Encode and Pick of rows, in plain words. -/
import Derived.Test.YthpkjkcfhipjhaaGreatDoorRQP
import Derived.Test.YthpkjkcfhipjhaaGreatDoorXRZ
import Derived.Test.YthpkjkcfhipjhaaGreatDoorPRWx
namespace Go.Proofs.YthpkjkcfhipjhaaGreatDoor
set_option linter.unusedVariables false
set_option linter.unusedSimpArgs false
open Go.RowKit Go.Proofs.YthpkjkcfhipjhaaGreatDoorW.PrintWords Go.Proofs.YthpkjkcfhipjhaaGreatDoorW.PrintLast PRW

theorem soundL_iff (l : List S64) : soundL l = (decide (l.length ≤ 1024) && l.all fun x => soundV x.f0 x.f1 x.f2 x.f3) := rfl

theorem rsound_ev (l : List S64) (hr : rngL l = true) : Ev (fun k => freshetref02_Sound.f k l) (soundL l) := by
  have main : ∀ d i : Nat, i + d = l.length → i ≤ 1024 → ((l.take i).all fun x => soundV x.f0 x.f1 x.f2 x.f3) = true → Ev (fun k => freshetref02_Sound.l0 k l (i : Int)) (soundL l) := by
    intro d
    induction d with
    | zero =>
      intro i hi h1 ht
      rw [List.take_of_length_le (by omega)] at ht
      have e : soundL l = true := by rw [soundL_iff, ht, decide_eq_true (by omega)]; rfl
      rw [e]
      refine Ev.step (f := fun _ => some true) (fun k => ?_) (Ev.now _)
      simp only [freshetref02_Sound.l0]
      rw [if_neg (by omega)]
    | succ d ih =>
      intro i hi h1 ht
      have hl : i < l.length := by omega
      by_cases hb : 1024 ≤ i
      · have e : soundL l = false := by rw [soundL_iff, decide_eq_false (by omega)]; rfl
        rw [e]
        refine Ev.step (f := fun _ => some false) (fun k => ?_) (Ev.now _)
        simp only [freshetref02_Sound.l0]
        rw [if_pos (by omega), if_pos (by omega)]
      · have hu : U64 (l[i]).f2 := rngL_U hr _ (List.getElem_mem hl)
        have hx : xrSound.f (l[i]).f0 (l[i]).f1 (l[i]).f2 (l[i]).f3 = some (soundV (l[i]).f0 (l[i]).f1 (l[i]).f2 (l[i]).f3) := by unfold xrSound.f; exact if_pos hu
        cases hs : soundV (l[i]).f0 (l[i]).f1 (l[i]).f2 (l[i]).f3
        · have e : soundL l = false := by rw [soundL_iff, not_all _ l i hl hs, Bool.and_false]
          rw [e]
          refine Ev.step (f := fun _ => some false) (fun k => ?_) (Ev.now _)
          simp only [freshetref02_Sound.l0]
          rw [if_pos (by omega), if_neg (by omega), if_pos (by omega), rd_at l i hl, hx, hs, Option.bind_some, if_neg Bool.false_ne_true]
        · refine Ev.step (fun k => ?_) (ih (i + 1) (by omega) (by omega) (take_all _ _ _ hl ht hs))
          simp only [freshetref02_Sound.l0]
          rw [if_pos (by omega), if_neg (by omega), if_pos (by omega), rd_at l i hl, hx, hs, Option.bind_some, if_pos rfl, w64k (by omega) (by omega)]
          rfl
  exact main l.length 0 (by omega) (by omega) rfl

theorem rcmp_ev (l m : List S64) (hl : rngL l = true) (hm : rngL m = true) : Ev (fun k => freshetref02_Compare.f k l m) (cmpLS l m) := by
  have J1 : Ev (fun k => freshetref02_Compare.j0 k l m true) (0 : Int) := by
    refine Ev.step (f := fun _ => some 0) (fun k => ?_) (Ev.now _)
    simp only [freshetref02_Compare.j0, if_true]
  cases hs : soundL l
  · have e : cmpLS l m = 0 := by unfold cmpLS; rw [hs]; rfl
    rw [e]
    have h := rsound_ev l hl
    rw [hs] at h
    refine Ev.bind h (Ev.congr (fun k => ?_) J1)
    rw [if_neg Bool.false_ne_true]
  · have h := rsound_ev l hl
    rw [hs] at h
    have h' := rsound_ev m hm
    cases hs' : soundL m
    · have e : cmpLS l m = 0 := by unfold cmpLS; rw [hs, hs']; rfl
      rw [e]
      rw [hs'] at h'
      refine Ev.bind h (Ev.congr (fun k => ?_) (Ev.bind (f := fun k t => freshetref02_Compare.j0 k l m (!t)) h' J1))
      rw [if_pos rfl]
    · rw [hs'] at h'
      have e : cmpLS l m = cmpL (l.map toV) (m.map toV) := by unfold cmpLS; rw [hs, hs']; rfl
      rw [e]
      have nl := (sound_all hs hl).2
      have nm := (sound_all hs' hm).2
      have main : ∀ d i : Nat, i + d = l.length → i ≤ m.length → Ev (fun k => freshetref02_Compare.l0 k l m (i : Int)) (cmpL ((l.drop i).map toV) ((m.drop i).map toV)) := by
        intro d
        induction d with
        | zero =>
          intro i hi h1
          have e0 : l.drop i = [] := List.drop_of_length_le (by omega)
          rw [e0]
          refine Ev.step (f := fun k => freshetref02_Compare.j2 k l m (i : Int) false) (fun k => ?_) ?_
          · simp only [freshetref02_Compare.l0]; rw [if_neg (by omega)]
          · by_cases hc : i < m.length
            · have e1 := List.drop_eq_getElem_cons hc
              rw [e1]
              refine Ev.step (f := fun _ => some (-1)) (fun k => ?_) (Ev.now _)
              simp only [freshetref02_Compare.j2]
              rw [if_neg Bool.false_ne_true, if_pos (by omega)]
            · have e1 : m.drop i = [] := List.drop_of_length_le (by omega)
              rw [e1]
              refine Ev.step (f := fun _ => some 0) (fun k => ?_) (Ev.now _)
              simp only [freshetref02_Compare.j2]
              rw [if_neg Bool.false_ne_true, if_neg (by omega), if_neg (by omega)]
        | succ d ih =>
          intro i hi h1
          have h2 : i < l.length := by omega
          have e1 := List.drop_eq_getElem_cons h2
          rw [e1]
          by_cases hc : i < m.length
          · have e2 := List.drop_eq_getElem_cons hc
            rw [e2]
            have hx : xrCompare.f (l[i]).f0 (l[i]).f1 (l[i]).f2 (l[i]).f3 (m[i]).f0 (m[i]).f1 (m[i]).f2 (m[i]).f3 = some (cV (toV l[i]) (toV m[i])) := by
              unfold xrCompare.f; exact if_pos ⟨rngL_U hl _ (List.getElem_mem h2), rngL_U hm _ (List.getElem_mem hc)⟩
            have hz : cmpL ((l[i] :: l.drop (i + 1)).map toV) ((m[i] :: m.drop (i + 1)).map toV) = if cV (toV l[i]) (toV m[i]) ≠ 0 then cV (toV l[i]) (toV m[i]) else cmpL ((l.drop (i + 1)).map toV) ((m.drop (i + 1)).map toV) := rfl
            rw [hz]
            have H : ∀ k, freshetref02_Compare.j2 (k + 1) l m (i : Int) true = (if cV (toV l[i]) (toV m[i]) = 0 then freshetref02_Compare.l0 k l m ((i + 1 : Nat) : Int) else some (cV (toV l[i]) (toV m[i]))) := by
              intro k
              simp only [freshetref02_Compare.j2, if_true]
              rw [if_pos (by omega), if_pos (by omega), if_pos (by omega), rd_at l i h2, rd_at m i hc, hx, Option.bind_some, w64k (by omega) (by omega)]
              rfl
            refine Ev.step (f := fun k => freshetref02_Compare.j2 k l m (i : Int) true) (fun k => ?_) ?_
            · simp only [freshetref02_Compare.l0]; rw [if_pos (by omega), decide_eq_true (by omega)]
            · by_cases h0 : cV (toV l[i]) (toV m[i]) = 0
              · rw [if_neg (fun h => h h0)]
                refine Ev.step (fun k => ?_) (ih (i + 1) (by omega) (by omega))
                rw [H, if_pos h0]
              · rw [if_pos h0]
                refine Ev.step (f := fun _ => some _) (fun k => ?_) (Ev.now _)
                rw [H, if_neg h0]
          · have e2 : m.drop i = [] := List.drop_of_length_le (by omega)
            rw [e2]
            refine Ev.step (f := fun k => freshetref02_Compare.j2 k l m (i : Int) false) (fun k => ?_) (Ev.step (f := fun _ => some 1) (fun k => ?_) (Ev.now _))
            · simp only [freshetref02_Compare.l0]; rw [if_pos (by omega), decide_eq_false (by omega)]
            · simp only [freshetref02_Compare.j2]
              rw [if_neg Bool.false_ne_true, if_neg (by omega), if_pos (by omega)]
      refine Ev.bind h (Ev.congr (fun k => ?_) (Ev.bind (f := fun k t => freshetref02_Compare.j0 k l m (!t)) h' (Ev.step (f := fun k => freshetref02_Compare.l0 k l m 0) (fun k => ?_) (main l.length 0 (by omega) (by omega)))))
      · rw [if_pos rfl]
      · simp only [freshetref02_Compare.j0]; rfl

/-! ### a value's bytes -/
theorem beB_front : ∀ (j n : Nat), beB (j + 1) n = UInt8.ofNat (n / 256 ^ j % 256) :: beB j n
  | 0, n => by simp [beB]
  | j + 1, n => by
    have e : beB (j + 2) n = beB (j + 1) (n / 256) ++ [UInt8.ofNat (n % 256)] := rfl
    rw [e, beB_front j (n / 256), Nat.div_div_eq_div_mul, ← Nat.pow_succ']
    rfl

theorem shr256 (n j : Nat) (hj : j ≤ 8) : shr .u64 (n : Int) (8 * (j : Int)) = ((n / 256 ^ j : Nat) : Int) := by
  unfold shr
  have : min (8 * (j : Int)).toNat IntKind.u64.bits = 8 * j := by
    rw [show (8 * (j : Int)).toNat = 8 * j by omega]; exact Nat.min_eq_left (by show _ ≤ 64; omega)
  rw [this, show (2 : Int) ^ (8 * j) = ((256 ^ j : Nat) : Int) by rw [Int.pow_mul]; simp]
  simp

theorem wordl_ev (n : Nat) : ∀ (j : Nat) (acc : List Int), j ≤ 8 → acc.length + j ≤ 100 → Ev (fun k => freshetref02_word.l0 k (n : Int) acc (8 * (j : Int) - 8)) (acc ++ numsL (beB j n))
  | 0, acc, _, _ => by
    refine Ev.step (f := fun _ => some acc) (fun k => ?_) (by simpa [beB, numsL] using Ev.now acc)
    simp only [freshetref02_word.l0]
    rw [if_neg (by omega)]
  | j + 1, acc, hj, hl => by
    have ih := wordl_ev n j (acc ++ [((UInt8.ofNat (n / 256 ^ j % 256)).toNat : Int)]) (by omega) (by simp; omega)
    have e : acc ++ numsL (beB (j + 1) n) = (acc ++ [((UInt8.ofNat (n / 256 ^ j % 256)).toNat : Int)]) ++ numsL (beB j n) := by rw [beB_front]; simp [numsL]
    rw [e]
    refine Ev.step (fun k => ?_) ih
    simp only [freshetref02_word.l0]
    have h1 : 8 * ((j + 1 : Nat) : Int) - 8 = 8 * (j : Int) := by omega
    have h2 : ((n / 256 ^ j : Nat) : Int) % 256 = ((UInt8.ofNat (n / 256 ^ j % 256)).toNat : Int) := by
      have : (UInt8.ofNat (n / 256 ^ j % 256)).toNat = n / 256 ^ j % 256 := by simp
      rw [this]; simp
    rw [h1, if_pos (by omega), wu64 (by omega) (by omega), if_pos (by omega), if_pos (by omega), shr256 n j (by omega), h2, w64k (by omega) (by omega)]

theorem word_ev (n : Nat) : Ev (fun k => freshetref02_word.f k (n : Int)) (numsL (beB 8 n)) := by
  have := wordl_ev n 8 [] (by omega) (by decide)
  exact this

theorem bytel_ev (a b c : Int) (t : ByteArray) (ht : t.size ≤ 4096) : ∀ (d i : Nat) (acc : List UInt8), i + d = t.size → acc.length ≤ 10 + 2 * i →
    Ev (fun k => freshetref02_bytes.l0 k (numsL acc) (i : Int) a b c t) (numsL (acc ++ (escT (t.data.toList.drop i) ++ [0, 0]))) := by
  intro d
  induction d with
  | zero =>
    intro i acc hi hl
    rw [List.drop_of_length_le (by rw [← Lib.size_eq]; omega)]
    refine Ev.step (f := fun _ => some _) (fun k => ?_) (Ev.now _)
    simp only [freshetref02_bytes.l0]
    rw [if_neg (by omega), Option.bind_some, if_pos (by rw [numsL_len]; simp; omega)]
    simp [numsL, escT]
  | succ d ih =>
    intro i acc hi hl
    have h1 : i < t.size := by omega
    have h2 : i < t.data.toList.length := by rw [← Lib.size_eq]; exact h1
    have e := List.drop_eq_getElem_cons h2
    have hb := bt_at_nat t i h1
    have hg : t.data.toList[i] = t[i] := rfl
    rw [e, hg]
    by_cases hz : t[i] = 0
    · have hz2 : (t[i].toNat : Int) = 0 := by rw [hz]; rfl
      have e2 : numsL (acc ++ (escT (t[i] :: t.data.toList.drop (i + 1)) ++ [0, 0])) = numsL ((acc ++ [0, 255]) ++ (escT (t.data.toList.drop (i + 1)) ++ [0, 0])) := by rw [hz]; simp [escT]
      rw [e2]
      refine Ev.step (fun k => ?_) (ih (i + 1) (acc ++ [0, 255]) (by omega) (by simp; omega))
      simp only [freshetref02_bytes.l0]
      rw [if_pos (by omega), if_pos (by omega), if_pos (by rw [numsL_len]; omega), hb, hz2, Option.bind_some, if_pos rfl, if_pos (by rw [List.length_append, numsL_len]; simp; omega), w64k (by omega) (by omega)]
      have e3 : numsL acc ++ [0] ++ [255] = numsL (acc ++ [0, 255]) := by simp [numsL]
      rw [e3]; rfl
    · have hz2 : ¬ (t[i].toNat : Int) = 0 := fun h => hz (UInt8.toNat_inj.1 (by show _ = 0; omega))
      have e2 : numsL (acc ++ (escT (t[i] :: t.data.toList.drop (i + 1)) ++ [0, 0])) = numsL ((acc ++ [t[i]]) ++ (escT (t.data.toList.drop (i + 1)) ++ [0, 0])) := by simp [escT, hz]
      rw [e2]
      refine Ev.step (fun k => ?_) (ih (i + 1) (acc ++ [t[i]]) (by omega) (by simp; omega))
      simp only [freshetref02_bytes.l0]
      rw [if_pos (by omega), if_pos (by omega), if_pos (by rw [numsL_len]; omega), hb, Option.bind_some, if_neg hz2, w64k (by omega) (by omega)]
      have e3 : numsL acc ++ [(t[i].toNat : Int)] = numsL (acc ++ [t[i]]) := by simp [numsL]
      rw [e3]; rfl

theorem orTop (f : Int) (h : U64 f) (hlt : f < 9223372036854775808) : Go.bits .or .u64 f 9223372036854775808 = rKey f := by
  obtain ⟨h0, h1⟩ := h
  unfold rKey
  rw [if_pos hlt, u64_or f 9223372036854775808 h0 h1 (by decide) (by decide)]
  have e : (9223372036854775808 : Int).toNat = 9223372036854775808 := by decide
  rw [e, flipOr _ (by omega)]
  omega

theorem bytes_ev (x : S64) (hs : soundV x.f0 x.f1 x.f2 x.f3 = true) (hn : I64 x.f1) (hf : U64 x.f2) :
    Ev (fun k => freshetref02_bytes.f k x.f0 x.f1 x.f2 x.f3) (numsL (encV (toV x))) := by
  have hk := kind_le (x := toV x) hs
  obtain ⟨hk0, hk4⟩ := hk
  have hk0 : 0 ≤ x.f0 := hk0
  have hk4 : x.f0 ≤ 4 := hk4
  have hh : ([(x.f0) % 256] : List Int) = numsL [UInt8.ofNat x.f0.toNat] := by
    have : (UInt8.ofNat x.f0.toNat).toNat = x.f0.toNat := by simp; omega
    simp only [numsL, List.map_cons, List.map_nil, this]
    congr 1; omega
  have hl1 : (numsL [UInt8.ofNat x.f0.toNat]).length = 1 := rfl
  have happ : ∀ l : List UInt8, numsL [UInt8.ofNat x.f0.toNat] ++ numsL l = numsL (UInt8.ofNat x.f0.toNat :: l) := fun l => rfl
  have hl8 : ∀ n, (numsL (beB 8 n)).length = 8 := fun n => by rw [numsL_len, beB_len]
  have J : ∀ (b : Bool), b = (decide (x.f0 = 1) || decide (x.f0 = 2)) → Ev (fun k => freshetref02_bytes.j0 k (numsL [UInt8.ofNat x.f0.toNat]) x.f0 b x.f0 x.f1 x.f2 x.f3) (numsL (encV (toV x))) := by
    intro b hb
    by_cases h12 : x.f0 = 1 ∨ x.f0 = 2
    · have hbt : b = true := by rw [hb]; rcases h12 with h | h <;> simp [h]
      obtain ⟨n0, n1⟩ := hn
      have hw : IntKind.u64.wrap (IntKind.u64.wrap x.f1 + 9223372036854775808) = (((x.f1 + 9223372036854775808).toNat : Nat) : Int) := by
        rw [IntKind.wrap_u64, IntKind.wrap_u64]; omega
      have e : numsL (encV (toV x)) = numsL (UInt8.ofNat x.f0.toNat :: beB 8 (x.f1 + 9223372036854775808).toNat) := by
        have h1 : (toV x).k = x.f0 := rfl
        have h3 : ¬ x.f0 = 3 := by omega
        unfold encV wordV
        rw [h1, if_pos (by omega), if_neg h3]; rfl
      rw [e, hbt]
      refine Ev.step (f := fun k => (freshetref02_word.f k (((x.f1 + 9223372036854775808).toNat : Nat) : Int)).bind fun t137 => (if (numsL [UInt8.ofNat x.f0.toNat]).length + t137.length < 140737488355328 then (some (numsL [UInt8.ofNat x.f0.toNat] ++ t137)) else (none))) (fun k => ?_) (Ev.bind (word_ev _) (Ev.congr (f := fun _ => some _) (fun k => ?_) (Ev.now _)))
      · simp only [freshetref02_bytes.j0, if_true]
        rw [hw]
      · rw [hl1, hl8, if_pos (by omega), happ]
    · have hbf : b = false := by rw [hb]; simp; omega
      subst hbf
      by_cases h3 : x.f0 = 3
      · have e : numsL (encV (toV x)) = numsL (UInt8.ofNat x.f0.toNat :: beB 8 (rKey x.f2).toNat) := by
          have h1 : (toV x).k = x.f0 := rfl
          unfold encV wordV
          rw [h1, if_pos (by omega), if_pos h3]; rfl
        rw [e]
        have hkey : ((rKey x.f2).toNat : Int) = rKey x.f2 := by obtain ⟨f0, f1⟩ := hf; unfold rKey; split <;> omega
        refine Ev.step (f := fun k => (freshetref02_word.f k (((rKey x.f2).toNat : Nat) : Int)).bind fun t137 => (if (numsL [UInt8.ofNat x.f0.toNat]).length + t137.length < 140737488355328 then (some (numsL [UInt8.ofNat x.f0.toNat] ++ t137)) else (none))) (fun k => ?_) (Ev.bind (word_ev _) (Ev.congr (f := fun _ => some _) (fun k => ?_) (Ev.now _)))
        · simp only [freshetref02_bytes.j0]
          rw [if_neg Bool.false_ne_true, if_pos h3, hkey]
          by_cases ht : x.f2 < 9223372036854775808
          · rw [if_neg (by obtain ⟨f0, f1⟩ := hf; omega), orTop _ hf ht]
          · rw [if_pos (by obtain ⟨f0, f1⟩ := hf; omega), xor_max _ hf]
            unfold rKey
            rw [if_neg ht]
        · rw [hl1, hl8, if_pos (by omega), happ]
      · by_cases h4 : x.f0 = 4
        · have h4s : x.f3.size ≤ 4096 := by
            have e := hs
            rw [h4] at e
            simp [soundV, eqV] at e
            exact e.2
          have e : numsL (encV (toV x)) = numsL ([UInt8.ofNat x.f0.toNat] ++ (escT (x.f3.data.toList.drop 0) ++ [0, 0])) := by
            have h1 : (toV x).k = x.f0 := rfl
            unfold encV
            rw [h1, if_neg (by omega), if_pos h4]; rfl
          rw [e]
          refine Ev.step (fun k => ?_) (bytel_ev x.f0 x.f1 x.f2 x.f3 h4s x.f3.size 0 [UInt8.ofNat x.f0.toNat] (by omega) (by simp))
          simp only [freshetref02_bytes.j0]
          rw [if_neg Bool.false_ne_true, if_neg h3, if_pos h4]; rfl
        · have e : numsL (encV (toV x)) = numsL [UInt8.ofNat x.f0.toNat] := by
            have h1 : (toV x).k = x.f0 := rfl
            unfold encV
            rw [h1, if_neg (by omega), if_neg h4]
          rw [e]
          refine Ev.step (f := fun _ => some _) (fun k => ?_) (Ev.now _)
          simp only [freshetref02_bytes.j0]
          rw [if_neg Bool.false_ne_true, if_neg h3, if_neg h4]
  by_cases h1 : x.f0 = 1
  · refine Ev.congr (fun k => ?_) (J (x.f0 == 1) (by rw [h1]; rfl))
    simp only [freshetref02_bytes.f]
    rw [hh, Option.bind_some, if_pos h1]
  · refine Ev.congr (fun k => ?_) (J (x.f0 == 2) (by by_cases h2 : x.f0 = 2 <;> simp [h1, h2]))
    simp only [freshetref02_bytes.f]
    rw [hh, Option.bind_some, if_neg h1]

theorem renc_ev (l : List S64) (hr : rngL l = true) : Ev (fun k => freshetref02_Encode.f k l) (encP l) := by
  have h := rsound_ev l hr
  cases hs : soundL l
  · have e : encP l = (⟨#[]⟩, 1) := by unfold encP; rw [hs]; rfl
    rw [e]
    rw [hs] at h
    refine Ev.bind h (Ev.congr (f := fun _ => some _) (fun k => ?_) (Ev.now _))
    rw [if_neg Bool.false_ne_true]
  · have e : encP l = (bs (encR (l.map toV)), 0) := by unfold encP; rw [hs]; rfl
    rw [e]
    rw [hs] at h
    obtain ⟨ok, nl⟩ := sound_all hs hr
    have main : ∀ d i : Nat, i + d = l.length → Ev (fun k => freshetref02_Encode.l0 k l (numsL (encR ((l.take i).map toV))) (i : Int)) (bs (encR (l.map toV)), (0 : Int)) := by
      intro d
      induction d with
      | zero =>
        intro i hi
        rw [List.take_of_length_le (by omega)]
        refine Ev.step (f := fun _ => some _) (fun k => ?_) (Ev.now _)
        simp only [freshetref02_Encode.l0]
        rw [if_neg (by omega), strOf_numsL]; rfl
      | succ d ih =>
        intro i hi
        have h1 : i < l.length := by omega
        have hx := ok _ (List.mem_map.2 ⟨l[i], List.getElem_mem h1, rfl⟩)
        have hb := bytes_ev l[i] hx.1 hx.2.1 hx.2.2
        have n1 := encR_len ((l.take i).map toV) (fun y hy => by
          obtain ⟨z, hz, rfl⟩ := List.mem_map.1 hy
          exact (ok _ (List.mem_map.2 ⟨z, List.mem_of_mem_take hz, rfl⟩)).1)
        rw [List.length_map, List.length_take] at n1
        have n2 := encV_len (toV l[i]) hx.1
        have e2 : encR ((l.take (i + 1)).map toV) = encR ((l.take i).map toV) ++ encV (toV l[i]) := by
          rw [List.take_succ_eq_append_getElem h1, List.map_append, enc_app]
          simp [encR]
        have ih2 := ih (i + 1) (by omega)
        rw [e2, numsL_app] at ih2
        refine Ev.step (f := fun k => (freshetref02_bytes.f k (l[i]).f0 (l[i]).f1 (l[i]).f2 (l[i]).f3).bind fun t172 => (if (numsL (encR ((l.take i).map toV))).length + t172.length < 140737488355328 then (freshetref02_Encode.l0 k l (numsL (encR ((l.take i).map toV)) ++ t172) (wrap64 ((i : Int) + 1))) else (none))) (fun k => ?_) (Ev.bind hb (Ev.congr (fun k => ?_) ih2))
        · simp only [freshetref02_Encode.l0]
          rw [if_pos (by omega), if_pos (by omega), rd_at l i h1]
        · rw [numsL_len, numsL_len, if_pos (by omega), w64k (by omega) (by omega)]; rfl
    refine Ev.bind h (Ev.congr (fun k => ?_) (main l.length 0 (by omega)))
    rw [if_pos rfl]; rfl

theorem rpickl_ev (l : List S64) (cols : List Int) (hc : cols.length ≤ 1024) : ∀ d i : Nat, i + d = cols.length → (cols.take i).all (inR l) = true →
    Ev (fun k => freshetref02_Pick.l0 k l cols ((cols.take i).map (fun c => rd_T64 l c)) (i : Int)) (pickC l cols) := by
  intro d
  induction d with
  | zero =>
    intro i hi ht
    rw [List.take_of_length_le (by omega)] at ht ⊢
    have e : pickC l cols = (cols.map (fun c => rd_T64 l c), 0) := by unfold pickC; rw [ht]; rfl
    rw [e]
    refine Ev.step (f := fun _ => some _) (fun k => ?_) (Ev.now _)
    simp only [freshetref02_Pick.l0]
    rw [if_neg (by omega)]
  | succ d ih =>
    intro i hi ht
    have h1 : i < cols.length := by omega
    have hb := rdI_at cols i h1
    by_cases hp : inR l cols[i] = true
    · have hp2 := (inR_iff _ _).1 hp
      refine Ev.step (fun k => ?_) (ih (i + 1) (by omega) (take_all _ _ _ h1 ht hp))
      simp only [freshetref02_Pick.l0]
      rw [if_pos (by omega), if_pos (by omega), hb, if_neg (by omega), if_neg (by omega), if_pos hp2.1, if_pos hp2.2, if_pos (by rw [List.length_map, List.length_take]; omega), w64k (by omega) (by omega), List.take_succ_eq_append_getElem h1, List.map_append]
      rfl
    · have hp0 : inR l cols[i] = false := by simpa using hp
      have hp2 : ¬ (0 ≤ cols[i] ∧ cols[i] < (l.length : Int)) := fun h => hp ((inR_iff _ _).2 h)
      have e : pickC l cols = ([], 1) := by unfold pickC; rw [not_all _ _ i h1 hp0]; rfl
      rw [e]
      refine Ev.step (f := fun _ => some _) (fun k => ?_) (Ev.now _)
      simp only [freshetref02_Pick.l0]
      rw [if_pos (by omega), if_pos (by omega), hb]
      by_cases h0 : cols[i] < 0
      · rw [if_pos h0]
      · rw [if_neg h0, if_pos (by omega)]

theorem rpick_ev (l : List S64) (cols : List Int) (hr : rngL l = true) : Ev (fun k => freshetref02_Pick.f k l cols) (pickP l cols) := by
  have h := rsound_ev l hr
  have J1 : Ev (fun k => freshetref02_Pick.j0 k l cols true) (([] : List S64), (1 : Int)) := by
    refine Ev.step (f := fun _ => some _) (fun k => ?_) (Ev.now _)
    simp only [freshetref02_Pick.j0, if_true]
  cases hs : soundL l
  · have e : pickP l cols = ([], 1) := by unfold pickP; rw [hs]; rfl
    rw [e]
    rw [hs] at h
    refine Ev.bind h (Ev.congr (fun k => ?_) J1)
    rw [if_neg Bool.false_ne_true]
  · rw [hs] at h
    by_cases hc : cols.length ≤ 1024
    · have e : pickP l cols = pickC l cols := by unfold pickP; rw [hs, decide_eq_true hc]; rfl
      rw [e]
      have h2 := rpickl_ev l cols hc cols.length 0 (by omega) rfl
      refine Ev.bind h (Ev.congr (f := fun k => freshetref02_Pick.j0 k l cols false) (fun k => ?_) (Ev.step (fun k => ?_) h2))
      · rw [if_pos rfl, decide_eq_false (by omega)]
      · simp only [freshetref02_Pick.j0]
        rw [if_neg Bool.false_ne_true]; rfl
    · have e : pickP l cols = ([], 1) := by unfold pickP; rw [hs, decide_eq_false hc]; rfl
      rw [e]
      refine Ev.bind h (Ev.congr (fun k => ?_) J1)
      rw [if_pos rfl, decide_eq_true (by omega)]

end Go.Proofs.YthpkjkcfhipjhaaGreatDoor
