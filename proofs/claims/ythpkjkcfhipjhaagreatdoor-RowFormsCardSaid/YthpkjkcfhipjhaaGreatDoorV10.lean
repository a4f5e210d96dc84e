/- A whole number's hexadecimal digits: strconv.FormatUint at base 16. -/
import Derived.Test.YthpkjkcfhipjhaaGreatDoorMB
import Derived.Test.YthpkjkcfhipjhaaGreatDoorMA
import Derived.Lib.VarintBits
namespace Go.Proofs.YthpkjkcfhipjhaaGreatDoor
set_option linter.unusedVariables false
set_option linter.unusedSimpArgs false
open Go.RowKit

def dB64 : List Int := [0, 1, 56, 2, 57, 49, 28, 3, 61, 58, 42, 50, 38, 29, 17, 4, 62, 47, 59, 36, 45, 43, 51, 22, 53, 39, 33, 30, 24, 18, 12, 5, 63, 55, 48, 27, 60, 41, 37, 16, 46, 35, 44, 21, 52, 32, 23, 11, 54, 26, 40, 15, 34, 20, 31, 10, 25, 14, 19, 9, 13, 8, 7, 6]
/-- the table of the lowest bits holds what its initialiser lays -/
def TabD (w : World) : Prop := Lib.TabIs Tryz.prog w "math/bits.deBruijn64tab" .u8 dB64
theorem TabD.below {w w' : World} (h : TabD w) (hb : Below w.heap.size w w') : TabD w' := Lib.tabBelow_of_tabIs h w' hb
theorem gDB : Tryz.prog.globalNamed "math/bits.deBruijn64tab" = some 6 := by kernel_rfl

/-- the digits, the highest first -/
def hexS : Nat → Nat → List UInt8
  | 0, _ => []
  | k + 1, u => if u < 16 then [hexD u] else hexS k (u / 16) ++ [hexD (u % 16)]
/-- just n digits -/
def hexP : Nat → Nat → List UInt8
  | 0, _ => []
  | n + 1, u => hexP n (u / 16) ++ [hexD (u % 16)]
theorem hexS_len (k u : Nat) : (hexS k u).length ≤ k := by
  induction k generalizing u with
  | zero => simp [hexS]
  | succ k ih => unfold hexS; split <;> simp; have := ih (u / 16); omega
theorem hexP_zero (n : Nat) : hexP n 0 = List.replicate n 48 := by
  induction n with
  | zero => rfl
  | succ n ih => simp only [hexP, Nat.zero_div, ih, Nat.zero_mod]; rw [List.replicate_succ']; rfl
theorem hexP_S (n u : Nat) (h : u < 16 ^ n) : List.replicate (n - (hexS n u).length) 48 ++ hexS n u = hexP n u := by
  induction n generalizing u with
  | zero => simp [hexS, hexP]
  | succ n ih =>
    unfold hexS hexP
    split
    · have h1 : u / 16 = 0 := by omega
      have h2 : u % 16 = u := by omega
      rw [h1, h2, hexP_zero]; simp
    · have := ih (u / 16) (by rw [Nat.pow_succ] at h; omega)
      rw [← this, List.length_append]
      simp only [List.length_cons, List.length_nil, List.append_assoc]
      have hl := hexS_len n (u / 16)
      congr 2
      omega

theorem and15u (x : Nat) (h : x < 18446744073709551616) : bits .and .u64 (x : Int) 15 = (x : Int) % 16 := by
  have := bits_mask .u64 64 (by decide) wraps_u64 4 (by decide) (x : Int) (by omega) (by omega)
  simpa using this

def hexZ : ByteArray := ⟨#[48, 49, 50, 51, 52, 53, 54, 55, 56, 57, 97, 98, 99, 100, 101, 102, 103, 104, 105, 106, 107, 108, 109, 110, 111, 112, 113, 114, 115, 116, 117, 118, 119, 120, 121, 122]⟩
theorem hexZ_get (n : Nat) (h : n < 16) : hexZ.data[n]? = some (hexD n) := by
  have : ∀ n : Fin 16, hexZ.data[n.1]? = some (hexD n.1) := by decide
  exact this ⟨n, h⟩
theorem hexZ_size : hexZ.size = 36 := rfl
theorem hexZ_at (n : Nat) (h : n < 16) : hexZ[n]'(by rw [hexZ_size]; omega) = hexD n := by
  have h2 := hexZ_get n h
  have hlt : n < hexZ.size := by rw [hexZ_size]; omega
  have : hexZ.data[n]? = some hexZ[n] := by rw [Array.getElem?_eq_getElem]; rfl
  rw [this] at h2; exact Option.some.inj h2
theorem idx_hexZ (n : Nat) (h : n < 16) (m : Int) (hm : m = (n : Int)) (w : World) : (Instr.index 9 (.string ⟨#[48, 49, 50, 51, 52, 53, 54, 55, 56, 57, 97, 98, 99, 100, 101, 102, 103, 104, 105, 106, 107, 108, 109, 110, 111, 112, 113, 114, 115, 116, 117, 118, 119, 120, 121, 122]⟩) (.int .u64 m)).run Tryz.prog w = .ok (.int .u8 (hexD n).toNat) w := by
  have h1 : (⟨#[48, 49, 50, 51, 52, 53, 54, 55, 56, 57, 97, 98, 99, 100, 101, 102, 103, 104, 105, 106, 107, 108, 109, 110, 111, 112, 113, 114, 115, 116, 117, 118, 119, 120, 121, 122]⟩ : ByteArray) = hexZ := rfl
  subst hm
  rw [h1]
  have h2 := hexZ_get n h
  have hz := hexZ_size
  have hlt : n < hexZ.size := by omega
  have hg : hexZ[n] = hexD n := by
    have : hexZ.data[n]? = some hexZ[n] := by rw [Array.getElem?_eq_getElem]; rfl
    rw [this] at h2; exact Option.some.inj h2
  have hlt' : ¬ 36 ≤ n := by omega
  go_simp
  intro hh; exfalso; omega

set_option maxRecDepth 100000 in
set_option maxHeartbeats 2000000 in
theorem pow2_c (w : World) : Calls Tryz.prog 141 #[.int .i64 16] w fun e w' => e = .returned (.bool true) ∧ w = w' := by
  have hb : bits .and .i64 16 15 = 0 := by decide +kernel
  go_enter Tryz.func141, Tryz.ntmps141
  go_wp2_with fail
  go_ret
  exact ⟨by simp, rfl⟩

set_option maxRecDepth 100000 in
set_option maxHeartbeats 2000000 in
theorem tz64_c (w : World) (ht : TabD w) : Calls Tryz.prog 148 #[.int .u64 16] w fun e w' => e = .returned (.int .i64 4) ∧ w = w' := by
  have hcell := Lib.TabIs.cell ht gDB 15 (by decide)
  have hv : dB64.getD 15 0 = 4 := by decide
  rw [hv] at hcell
  have hk : bits .and .u64 16 (IntKind.u64.wrap (-16)) = 16 := by decide +kernel
  have hw : IntKind.u64.wrap (16 * 285870213051353865) = 4573923408821661840 := by decide +kernel
  go_enter Tryz.func148, Tryz.ntmps148
  go_wp2_with fail
  go_ret
  exact ⟨by simp, rfl⟩

set_option maxRecDepth 100000 in
set_option maxHeartbeats 2000000 in
theorem tz_c (w : World) (ht : TabD w) : Calls Tryz.prog 142 #[.int .u64 16] w fun e w' => e = .returned (.int .i64 4) ∧ w = w' := by
  go_enter Tryz.func142, Tryz.ntmps142
  go_wp2_with (go_at_call 148; refine (tz64_c _ ht).mono ?_; rintro e w' ⟨rfl, rfl⟩)
  go_ret
  exact ⟨rfl, rfl⟩

theorem andm (x : Nat) (h : x < 18446744073709551616) : (bits .and .u64 (x : Int) 15) = ((x % 16 : Nat) : Int) := by rw [and15u x h]; simp

/-- the array behind the digits l, from place m on -/
def HexAt (g m : Nat) (l : List UInt8) (wr : World) : Prop :=
  (∀ j, j < 65 → ∃ v, wr.cell? ⟨g, j, none⟩ = some v) ∧ (∀ j c, l[j]? = some c → wr.cell? ⟨g, m + j, none⟩ = some (.int .u8 c.toNat)) ∧ ∀ j, wr.frozen? ⟨g, j, none⟩ = false
theorem HexAt.put {g m : Nat} {l : List UInt8} {wr : World} (h : HexAt g (m + 1) l wr) (hm : m < 65) (c : UInt8) : HexAt g m (c :: l) (wr.setCell ⟨g, m, none⟩ (.int .u8 c.toNat)) := by
  obtain ⟨h1, h2, h3⟩ := h
  refine ⟨fun j hj => ?_, fun j d hd => ?_, fun j => by simp [h3]⟩
  · by_cases e : j = m
    · subst e; obtain ⟨v, hv⟩ := h1 j hj; exact ⟨_, World.cell?_setCell_same _ _ _ hv⟩
    · obtain ⟨v, hv⟩ := h1 j hj
      exact ⟨v, by rw [World.cell?_setCell_other _ _ _ _ (fun x => e (by injection x with _ x; exact x.symm))]; exact hv⟩
  · cases j with
    | zero =>
      simp at hd; subst hd
      obtain ⟨v, hv⟩ := h1 m hm; exact World.cell?_setCell_same _ _ _ hv
    | succ j =>
      simp at hd
      rw [World.cell?_setCell_other _ _ _ _ (fun x => by injection x with _ x; omega), show m + (j + 1) = m + 1 + j by omega]
      exact h2 j d hd
theorem hexAt_new (w : World) (cs : Array Value) (T : TypeId) (h : cs.size = 65) : HexAt w.heap.size 65 [] (w.alloc (.cells cs T)) := by
  have hn := heap_alloc_new w (.cells cs T)
  refine ⟨fun j hj => ?_, fun j c hc => by simp at hc, fun j => Lib.frozen_of_heap hn j⟩
  exact ⟨cs[j], by rw [Lib.cell_of_heap hn j]; simp [Array.getElem?_eq_getElem, h, hj]⟩
theorem hex_two {v n : Nat} (h : v < 16 ^ (16 - n)) (hv : 16 ≤ v) : n + 1 ≤ 15 := by
  by_cases h1 : n + 1 ≤ 15
  · exact h1
  · exfalso
    have : 16 - n = 0 ∨ 16 - n = 1 := by omega
    rcases this with e | e <;> rw [e] at h <;> omega
theorem HexAt.drew {g m : Nat} {l : List UInt8} {wr : World} (h : HexAt g m l wr) : HexAt g m l wr.drew := h

set_option maxRecDepth 100000 in
set_option maxHeartbeats 2000000 in
theorem fmtBits_c (u : Nat) (w : World) (hu : u < 18446744073709551616) (ht : TabD w) :
    Calls Tryz.prog 126 #[.slice none 0 0, .int .u64 u, .int .i64 16, .bool false, .bool false] w fun e w' => e = .returned (.tuple #[.slice none 0 0, .string ⟨(hexS 16 u).toArray⟩]) ∧ Below w.heap.size w w' := by
  go_enter Tryz.func126, Tryz.ntmps126
  go_wp2_with (first | (go_at_call 141; refine (pow2_c _).mono ?_; rintro e w' ⟨rfl, rfl⟩) | (go_at_call 142; refine (tz_c _ (ht.below (by repeat (first | (with_reducible exact Below.refl _ _) | (with_reducible refine below_al ?_ _) | (with_reducible refine below_drewN ?_ _) | (with_reducible refine Below.drew ?_) | (with_reducible refine below_via (by assumption) ?_) | (with_reducible refine below_sc ?_ ?_ _; · (first | (simp; done) | (simp; omega) | omega)))))).mono ?_; rintro e w' ⟨rfl, rfl⟩))
  have hB0 : Below w.heap.size w (w.alloc (.cells (Array.replicate 65 (.int .u8 0)) 155)) := below_box _ _
  go_loopw [1, 13] (fun x i wr => ∃ (m v : Nat) (l : List UInt8), x = .int .u64 v ∧ i = .int .i64 m ∧ m + l.length = 65 ∧ l.length ≤ 15 ∧ v < 16 ^ (16 - l.length) ∧ v < 18446744073709551616 ∧ Hid (hexS 16 u = hexS (16 - l.length) v ++ l) ∧ HexAt w.heap.size m l wr ∧ Below w.heap.size w wr) (fun x _ _ => (intOf x).toNat)
  case atStart => exact ⟨65, u, [], rfl, rfl, rfl, by simp, by simp; omega, hu, Lib.hid (by simp), hexAt_new _ _ _ (by simp), below_box _ _⟩
  case round =>
    obtain ⟨m, v, l, rfl, rfl, hm, hl, hv, hv64, HE, hA, hBel⟩ := hrel
    obtain ⟨m, rfl⟩ : ∃ q, m = q + 1 := ⟨m - 1, by omega⟩
    obtain ⟨old, hold⟩ := hA.1 m (by omega)
    have hfz := hA.2.2 m
    have ha := andm v hv64
    have hHA := Lib.hid hA; clear hA
    have hmm : m < 65 := by omega
    have hll : l.length = 65 - (m + 1) := by omega
    have HL := Lib.hid hll; clear hll hm
    have HV := Lib.hid hv; clear hv
    by_cases hc : 16 ≤ v
    · have hx := fun w => idx_hexZ (v % 16) (by omega) ((v % 16 : Nat) : Int) rfl w
      go_wp2_with fail
      go_roundw
      case rel =>
        have h2 := hex_two HV.out hc
        refine ⟨m, v / 16, hexD (v % 16) :: l, by go_num, by go_num, ?_, ?_, ?_, by omega, ?_, ?_, ?_⟩
        · have := HL.out; simp; omega
        · simp; omega
        · have h3 := HV.out
          rw [List.length_cons, show 16 - l.length = (16 - (l.length + 1)) + 1 by omega, Nat.pow_succ] at *
          omega
        · refine Lib.hid ?_
          rw [HE.out, List.length_cons, show 16 - l.length = (16 - (l.length + 1)) + 1 by omega, hexS, if_neg (by omega)]
          simp
        · rw [← hexZ_at (v % 16) (by omega)]; exact hHA.out.put hmm _
        · exact below_sc (p := ⟨w.heap.size, m, none⟩) (Nat.le_refl _) hBel _
      case measure => simp [intOf]; omega
    · have hx := fun w => idx_hexZ v (by omega) (v : Int) rfl w
      have hA2 := (hHA.out.put hmm (hexD v))
      have hcv : ∀ cap, (convert 78 9 (.slice (some ⟨w.heap.size, m, none⟩) (65 - m) cap)).run Tryz.prog (wr.setCell ⟨w.heap.size, m, none⟩ (.int .u8 (hexD v).toNat)) = .ok (.string ⟨(hexD v :: l).toArray⟩) (wr.setCell ⟨w.heap.size, m, none⟩ (.int .u8 (hexD v).toNat)) := fun cap => by
        have := run_convert_bytes_back (P := Tryz.prog) (wr.setCell ⟨w.heap.size, m, none⟩ (.int .u8 (hexD v).toNat)) 78 9 5 ⟨w.heap.size, m, none⟩ cap (hexD v :: l) Tryz.underlying78 Tryz.underlying5 Tryz.underlying9 (fun j hj => by
          have := hA2.2.1 j (hexD v :: l)[j] (List.getElem?_eq_getElem hj)
          rw [← this]; congr 1; unfold Addr.add; split <;> simp_all)
        rw [show (hexD v :: l).length = 65 - m by have := HL.out; simp; omega] at this
        exact this
      have hfin : hexS 16 u = hexD v :: l := by
        rw [HE.out, show 16 - l.length = (15 - l.length) + 1 by omega, hexS, if_pos (by omega)]; rfl
      have HF := Lib.hid hfin; clear hfin hA2
      have hcv' := hcv (65 - m); clear hcv
      have hal : Tryz.prog.arrayLen 155 = 65 := by kernel_rfl
      have hm0 : (0 : Int) ≤ m := by omega
      have hm1 : (m : Int) ≤ 65 := by omega
      go_wp2_with fail
      go_ret2
      exact ⟨by rw [HF.out]; rfl, below_sc (p := ⟨w.heap.size, m, none⟩) (Nat.le_refl _) hBel _⟩

set_option maxRecDepth 100000 in
set_option maxHeartbeats 2000000 in
theorem fmtUint_c (u : Nat) (w : World) (hu : u < 18446744073709551616) (ht : TabD w) : Calls Tryz.prog 118 #[.int .u64 u, .int .i64 16] w fun e w' => e = .returned (.string ⟨(hexS 16 u).toArray⟩) ∧ Below w.heap.size w w' := by
  go_enter Tryz.func118, Tryz.ntmps118
  go_wp2_with (go_at_call 126; refine (fmtBits_c _ _ hu ht).mono ?_; rintro e w' ⟨rfl, hb⟩; (try (replace hb := below_undrew hb)); (try (replace hb := below_undrewN hb)); obtain ⟨hc, hf⟩ := bcell hb; (try (have hz0 : w.heap.size < w'.heap.size := (by have := hb.size; (try simp at this); omega))); (try (have hz1 : w.heap.size + 1 < w'.heap.size := (by have := hb.size; (try simp at this); omega))); (try (have hz2 : w.heap.size + 2 < w'.heap.size := (by have := hb.size; (try simp at this); omega))); (try (have hz3 : w.heap.size + 3 < w'.heap.size := (by have := hb.size; (try simp at this); omega))))
  go_ret
  exact ⟨rfl, (by repeat (first | (with_reducible exact Below.refl _ _) | (with_reducible refine below_al ?_ _) | (with_reducible refine below_drewN ?_ _) | (with_reducible refine Below.drew ?_) | (with_reducible refine below_via (by assumption) ?_) | (with_reducible refine below_sc ?_ ?_ _; · (first | (simp; done) | (simp; omega) | omega))))⟩
set_option maxRecDepth 100000 in
set_option maxHeartbeats 2000000 in
theorem sFmtUint_c (u : Nat) (w : World) (hu : u < 18446744073709551616) (ht : TabD w) : Calls Tryz.prog 98 #[.int .u64 u, .int .i64 16] w fun e w' => e = .returned (.string ⟨(hexS 16 u).toArray⟩) ∧ Below w.heap.size w w' := by
  go_enter Tryz.func98, Tryz.ntmps98
  go_wp2_with (go_at_call 118; refine (fmtUint_c _ _ hu ht).mono ?_; rintro e w' ⟨rfl, hb⟩; (try (replace hb := below_undrew hb)); (try (replace hb := below_undrewN hb)); obtain ⟨hc, hf⟩ := bcell hb; (try (have hz0 : w.heap.size < w'.heap.size := (by have := hb.size; (try simp at this); omega))); (try (have hz1 : w.heap.size + 1 < w'.heap.size := (by have := hb.size; (try simp at this); omega))); (try (have hz2 : w.heap.size + 2 < w'.heap.size := (by have := hb.size; (try simp at this); omega))); (try (have hz3 : w.heap.size + 3 < w'.heap.size := (by have := hb.size; (try simp at this); omega))))
  go_ret
  exact ⟨rfl, (by repeat (first | (with_reducible exact Below.refl _ _) | (with_reducible refine below_al ?_ _) | (with_reducible refine below_drewN ?_ _) | (with_reducible refine Below.drew ?_) | (with_reducible refine below_via (by assumption) ?_) | (with_reducible refine below_sc ?_ ?_ _; · (first | (simp; done) | (simp; omega) | omega))))⟩

end Go.Proofs.YthpkjkcfhipjhaaGreatDoor
