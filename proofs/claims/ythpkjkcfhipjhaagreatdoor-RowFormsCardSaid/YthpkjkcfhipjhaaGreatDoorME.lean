/- The reader's value. The reader's value: words of 8 bytes. The reader's value: a text, and what is no value; the whole. row.Decode: the row of these bytes, or why there is none. What is left behind a reading that gives up. row.Decode: the walk. -/
import Derived.Test.YthpkjkcfhipjhaaGreatDoorR6
import Derived.RegionTactic
import Derived.BigRegion
import Derived.Deep.RegionLaw
import Derived.Deep.AppendLies
import Derived.Deep.RegionHeld3
namespace Go.Proofs.YthpkjkcfhipjhaaGreatDoor
set_option linter.unusedVariables false
set_option linter.unusedSimpArgs false
open Go.RowKit Go.Proofs.YthpkjkcfhipjhaaGreatDoorW.PrintWords Go.Proofs.YthpkjkcfhipjhaaGreatDoorW.PrintLast

/-- what a reading of a value comes to -/
def OutVr (b : Nat) (r : Except Int (V × List UInt8)) (w : World) (e : Ending) (w' : World) : Prop :=
  match r with
  | .ok (x, rest) => e = .returned (.agg #[.int .i64 x.k, .int .i64 x.n, .int .u64 x.f, .string x.t]) ∧ Rd w' b rest ∧ Fr b w w'
  | .error c => e = .panicked (flr c) ∧ Fr b w w'

/-- a value in block g -/
structure Bx (w : World) (g : Nat) (k n f : Int) (t : ByteArray) : Prop where
  c0 : w.cell? ⟨g, 0, none⟩ = some (.int .i64 k)
  c1 : w.cell? ⟨g, 1, none⟩ = some (.int .i64 n)
  c2 : w.cell? ⟨g, 2, none⟩ = some (.int .u64 f)
  c3 : w.cell? ⟨g, 3, none⟩ = some (.string t)
  f0 : w.frozen? ⟨g, 0, none⟩ = false
  f1 : w.frozen? ⟨g, 1, none⟩ = false
  f2 : w.frozen? ⟨g, 2, none⟩ = false
  f3 : w.frozen? ⟨g, 3, none⟩ = false
theorem Bx.lt {w : World} {g : Nat} {k n f : Int} {t : ByteArray} (h : Bx w g k n f t) : g < w.heap.size := World.block_lt_of_cell? w _ h.c0
theorem Bx.fr {w w' : World} {b g : Nat} {k n f : Int} {t : ByteArray} (h : Bx w g k n f t) (hf : Fr b w w') (hn : g ≠ b) : Bx w' g k n f t := by
  have l := h.lt
  obtain ⟨a0, a1, a2, a3, b0, b1, b2, b3⟩ := h
  exact ⟨by rw [hf.cell _ _ l hn, a0], by rw [hf.cell _ _ l hn, a1], by rw [hf.cell _ _ l hn, a2], by rw [hf.cell _ _ l hn, a3], by rw [hf.frozen _ _ l hn, b0], by rw [hf.frozen _ _ l hn, b1], by rw [hf.frozen _ _ l hn, b2], by rw [hf.frozen _ _ l hn, b3]⟩
theorem Bx.below {w w' : World} {g : Nat} {k n f : Int} {t : ByteArray} (h : Bx w g k n f t) (hb : Below w.heap.size w w') : Bx w' g k n f t := by
  have l := h.lt
  obtain ⟨hc, hf⟩ := bcell hb
  obtain ⟨a0, a1, a2, a3, b0, b1, b2, b3⟩ := h
  exact ⟨by rw [hc _ _ l, a0], by rw [hc _ _ l, a1], by rw [hc _ _ l, a2], by rw [hc _ _ l, a3], by rw [hf _ _ l, b0], by rw [hf _ _ l, b1], by rw [hf _ _ l, b2], by rw [hf _ _ l, b3]⟩
theorem Bx.new (w : World) (k n f : Int) (t : ByteArray) (T : TypeId) : Bx (w.alloc (.cells #[.int .i64 k, .int .i64 n, .int .u64 f, .string t] T)) w.heap.size k n f t := by
  constructor <;> simp [go_sem]

theorem Bx.al {w : World} {g : Nat} {k n f : Int} {t : ByteArray} (h : Bx w g k n f t) (o : Obj) : Bx (w.alloc o) g k n f t := h.below (below_box w o)

theorem Rd.set {w : World} {b g : Nat} {l : List UInt8} (h : Rd w b l) (hg : g ≠ b) (o : Nat) (u : Value) : Rd (w.setCell ⟨g, o, none⟩ u) b l := by
  have e := Below.heap_setCell w ⟨g, o, none⟩ u b (fun e => hg e.symm)
  exact ⟨by unfold World.cell?; rw [e]; exact h.c0, by unfold World.frozen?; rw [e]; exact h.f0⟩
theorem Fr.new {b g : Nat} {w w1 : World} (h : Fr b w w1) (hg : w.heap.size ≤ g) (o : Nat) (u : Value) : Fr b w (w1.setCell ⟨g, o, none⟩ u) :=
  ⟨h.os, h.tape, h.output, by simp; exact h.size, fun k hk hb => by rw [Below.heap_setCell w1 ⟨g, o, none⟩ u k (show k ≠ g by omega)]; exact h.block k hk hb⟩
theorem Fr.al {b : Nat} {w w1 : World} (h : Fr b w w1) (o : Obj) : Fr b w (w1.alloc o) := h.add (below_box w1 o)

theorem Bx.setN {w : World} {g : Nat} {k n f : Int} {t : ByteArray} (h : Bx w g k n f t) (m : Int) : Bx (w.setCell ⟨g, 1, none⟩ (.int .i64 m)) g k m f t := by
  obtain ⟨a0, a1, a2, a3, b0, b1, b2, b3⟩ := h
  constructor <;> simp [go_sem, *]
theorem Bx.setF {w : World} {g : Nat} {k n f : Int} {t : ByteArray} (h : Bx w g k n f t) (m : Int) : Bx (w.setCell ⟨g, 2, none⟩ (.int .u64 m)) g k n m t := by
  obtain ⟨a0, a1, a2, a3, b0, b1, b2, b3⟩ := h
  constructor <;> simp [go_sem, *]
theorem Bx.setT {w : World} {g : Nat} {k n f : Int} {t : ByteArray} (h : Bx w g k n f t) (m : ByteArray) : Bx (w.setCell ⟨g, 3, none⟩ (.string m)) g k n f m := by
  obtain ⟨a0, a1, a2, a3, b0, b1, b2, b3⟩ := h
  constructor <;> simp [go_sem, *]
theorem Bx.other {w : World} {g g' : Nat} {k n f : Int} {t : ByteArray} (h : Bx w g k n f t) (hg : ¬ g' = g) (o : Nat) (u : Value) : Bx (w.setCell ⟨g', o, none⟩ u) g k n f t := by
  have e := Below.heap_setCell w ⟨g', o, none⟩ u g (fun e => hg e.symm)
  obtain ⟨a0, a1, a2, a3, b0, b1, b2, b3⟩ := h
  unfold World.cell? at a0 a1 a2 a3
  unfold World.frozen? at b0 b1 b2 b3
  constructor <;> (first | unfold World.cell? | unfold World.frozen?) <;> rw [e] <;> assumption

theorem xorN (N : Nat) (h : N < 18446744073709551616) : IntKind.i64.wrap (Go.bits .xor .u64 (N : Int) 9223372036854775808) = (N : Int) - 9223372036854775808 := by
  have e := u64_xor_nat N 9223372036854775808 h (by decide)
  rw [show ((9223372036854775808 : Nat) : Int) = 9223372036854775808 from rfl] at e
  rw [e, IntKind.wrap_i64]
  have hx : (N ^^^ 9223372036854775808) = if 9223372036854775808 ≤ N then N - 9223372036854775808 else N + 9223372036854775808 := by
    by_cases h2 : 9223372036854775808 ≤ N
    · rw [if_pos h2]
      have e1 := Nat.two_pow_add_eq_or_of_lt (i := 63) (b := N - 9223372036854775808) (by omega) 1
      have e3 : N = (N - 9223372036854775808) ^^^ 9223372036854775808 := by
        apply Nat.eq_of_testBit_eq
        intro i
        have e2 : N = 2 ^ 63 * 1 ||| (N - 9223372036854775808) := by rw [← e1]; omega
        rw [show (9223372036854775808 : Nat) = 2 ^ 63 * 1 by decide] at *
        conv => lhs; rw [e2]
        rw [Nat.testBit_or, Nat.testBit_xor, Nat.mul_one, Nat.testBit_two_pow]
        by_cases hi : 63 = i
        · subst hi
          have : (N - 2 ^ 63 * 1).testBit 63 = false := Nat.testBit_lt_two_pow (by omega)
          rw [Nat.mul_one] at this
          simp [this]
        · simp [hi]
      conv => lhs; rw [e3]
      rw [Nat.xor_assoc, Nat.xor_self, Nat.xor_zero]
    · rw [if_neg h2]
      have e1 := Nat.two_pow_add_eq_or_of_lt (i := 63) (b := N) (by omega) 1
      apply Nat.eq_of_testBit_eq
      intro i
      have e2 : N + 9223372036854775808 = 2 ^ 63 * 1 ||| N := by rw [← e1]; omega
      rw [e2, show (9223372036854775808 : Nat) = 2 ^ 63 by decide, Nat.testBit_or, Nat.testBit_xor, Nat.mul_one, Nat.testBit_two_pow]
      by_cases hi : 63 = i
      · subst hi
        have : N.testBit 63 = false := Nat.testBit_lt_two_pow (by omega)
        simp [this]
      · simp [hi]
  rw [hx]
  split <;> omega

set_option maxRecDepth 100000 in
set_option maxHeartbeats 2000000 in
theorem value_nil (b : Nat) (w : World) (h : Rd w b []) :
    Calls Tryz.prog 83 #[.pointer (some ⟨b, 0, none⟩)] w (OutVr b (.error 3) w) := by
  have HU := hidF (fun W (hR : Rd W b []) => take_short b [] 1 1 rfl W hR (by decide) (by decide) (by decide))
  go_enter Tryz.func83, Tryz.ntmps83
  go_wp2_with (go_at_call 104; (with_reducible refine (HU.out _ (h.below (by repeat (first | (with_reducible exact Below.refl _ _) | (with_reducible refine below_al ?_ _) | (with_reducible refine below_drewN ?_ _) | (with_reducible refine Below.drew ?_) | (with_reducible refine below_via (by assumption) ?_) | (with_reducible refine below_sc ?_ ?_ _; · (first | (simp; done) | (simp; omega) | omega)))))).mono ?_); rintro e w' ⟨rfl, rfl⟩)
  exact ⟨rfl, rfl, .of (by repeat (first | (with_reducible exact Below.refl _ _) | (with_reducible refine below_al ?_ _) | (with_reducible refine below_drewN ?_ _) | (with_reducible refine Below.drew ?_) | (with_reducible refine below_via (by assumption) ?_) | (with_reducible refine below_sc ?_ ?_ _; · (first | (simp; done) | (simp; omega) | omega))))⟩

set_option maxRecDepth 100000 in
set_option maxHeartbeats 2000000 in
theorem value_null (b : Nat) (l : List UInt8) (w : World) (h : Rd w b (0 :: l)) (hl : l.length ≤ 140737488355326) :
    Calls Tryz.prog 83 #[.pointer (some ⟨b, 0, none⟩)] w (OutVr b (.ok (⟨0, 0, 0, ⟨#[]⟩⟩, l)) w) := by
  have hlt := h.lt
  have HU := hidF (fun W (hR : Rd W b (0 :: l)) => take_ok b (0 :: l) 1 1 rfl W hR (by simp) (by simp; omega))
  simp only [List.take_succ_cons, List.take_zero, List.drop_succ_cons, List.drop_zero] at HU
  have hix := idx0 0
  have hnb : ¬ w.heap.size = b := by omega
  have HS := hidF (fun W => sound_c 0 0 0 ⟨#[]⟩ W (by constructor <;> decide))
  rw [sound_null] at HS
  go_enter Tryz.func83, Tryz.ntmps83
  go_wp2_with fail
  (with_reducible refine (HU.out _ (h.below (by repeat (first | (with_reducible exact Below.refl _ _) | (with_reducible refine below_al ?_ _) | (with_reducible refine below_drewN ?_ _) | (with_reducible refine Below.drew ?_) | (with_reducible refine below_via (by assumption) ?_) | (with_reducible refine below_sc ?_ ?_ _; · (first | (simp; done) | (simp; omega) | omega)))))).mono ?_)
  rintro e w1 ⟨rfl, hR1, hF1⟩
  have HX := hidF (Bx.fr (Bx.new w 0 0 0 ⟨#[]⟩ 64) hF1 hnb)
  have hF1' := hidF (show Fr b w w1 from Fr.trans (w1 := w.alloc (.cells #[.int .i64 0, .int .i64 0, .int .u64 0, .string ⟨#[]⟩] 64)) (Fr.of (by repeat (first | (with_reducible exact Below.refl _ _) | (with_reducible refine below_al ?_ _) | (with_reducible refine below_drewN ?_ _) | (with_reducible refine Below.drew ?_) | (with_reducible refine below_via (by assumption) ?_) | (with_reducible refine below_sc ?_ ?_ _; · (first | (simp; done) | (simp; omega) | omega))))) hF1)
  have hs1 := hF1.size
  simp at hs1
  clear hF1
  have hnn : ¬ w1.heap.size = w.heap.size := by omega
  have hnn' : ¬ w.heap.size = w1.heap.size := by omega
  have hnb1 : ¬ w1.heap.size = b := by omega
  go_wp2_with (first | (go_at_call 67; (with_reducible refine (HS.out _).mono ?_); rintro e w2 ⟨rfl, hb2⟩; have hR2 := hidF (Rd.below (hR1.below (by repeat (first | (with_reducible exact Below.refl _ _) | (with_reducible refine below_al ?_ _) | (with_reducible refine below_drewN ?_ _) | (with_reducible refine Below.drew ?_) | (with_reducible refine below_via (by assumption) ?_) | (with_reducible refine below_sc ?_ ?_ _; · (first | (simp; done) | (simp; omega) | omega))))) hb2); have hF2' := hidF (Fr.add (hF1'.out.al _) hb2); have hs2 := hb2.size; simp at hs2; obtain ⟨a0, a1, a2, a3, b0, b1, b2, b3⟩ := (HX.out.al _).below hb2; obtain ⟨d0, d1, d2, d3, e0, e1, e2, e3⟩ := (Bx.new w1 _ _ _ _ _).below hb2; clear hb2) | (go_at_call 82; (with_reducible refine (rmust_t _ _).mono ?_); rintro e w9 ⟨rfl, rfl⟩))
  refine bodyPost_ret (v := .agg #[.int .i64 (0), .int .i64 (0), .int .u64 (0), .string (⟨#[]⟩)]) (by simp [results, Tryz.results83, go_sem, *]) rfl ⟨rfl, ?_, ?_⟩
  · repeat (refine Rd.set ?_ (by omega) _ _)
    exact hR2.out
  · repeat (refine Fr.new ?_ (by omega) _ _)
    exact hF2'.out

end Go.Proofs.YthpkjkcfhipjhaaGreatDoor

namespace Go.Proofs.YthpkjkcfhipjhaaGreatDoor
set_option linter.unusedVariables false
set_option linter.unusedSimpArgs false
open Go.RowKit Go.Proofs.YthpkjkcfhipjhaaGreatDoorW.PrintWords Go.Proofs.YthpkjkcfhipjhaaGreatDoorW.PrintLast

set_option maxRecDepth 100000 in
set_option maxHeartbeats 2000000 in
theorem value_w1t (b : Nat) (l : List UInt8) (w : World) (h : Rd w b (1 :: l)) (hl : l.length ≤ 140737488355326) (h8 : 8 ≤ l.length) (hs : soundV 1 ((numB (l.take 8) : Int) - 9223372036854775808) 0 ⟨#[]⟩ = true) :
    Calls Tryz.prog 83 #[.pointer (some ⟨b, 0, none⟩)] w (OutVr b (.ok (⟨1, ((numB (l.take 8) : Int) - 9223372036854775808), 0, ⟨#[]⟩⟩, l.drop 8)) w) := by
  have hN : numB (l.take 8) < 18446744073709551616 := by
    have h1 := numB_lt (l.take 8)
    rw [List.length_take, Nat.min_eq_left h8] at h1
    have e8 : 256 ^ 8 = 18446744073709551616 := by decide
    omega
  have hlt := h.lt
  have HU := hidF (fun W (hR : Rd W b (1 :: l)) => take_ok b (1 :: l) 1 1 rfl W hR (by simp) (by simp; omega))
  simp only [List.take_succ_cons, List.take_zero, List.drop_succ_cons, List.drop_zero] at HU
  have hix := idx0 1
  have hnb : ¬ w.heap.size = b := by omega
  have HN := hidF (fun W (hR : Rd W b l) => number_ok b l W hR h8 (by omega))
  have hxn := xorN (numB (l.take 8)) hN
  have HS := hidF (fun W => sound_c 1 ((numB (l.take 8) : Int) - 9223372036854775808) 0 ⟨#[]⟩ W (by constructor <;> omega))
  rw [hs] at HS
  clear hs
  generalize numB (l.take 8) = N at *
  go_enter Tryz.func83, Tryz.ntmps83
  go_wp2_with fail
  (with_reducible refine (HU.out _ (h.below (by repeat (first | (with_reducible exact Below.refl _ _) | (with_reducible refine below_al ?_ _) | (with_reducible refine below_drewN ?_ _) | (with_reducible refine Below.drew ?_) | (with_reducible refine below_via (by assumption) ?_) | (with_reducible refine below_sc ?_ ?_ _; · (first | (simp; done) | (simp; omega) | omega)))))).mono ?_)
  rintro e w1 ⟨rfl, hR1, hF1⟩
  have HX := hidF (Bx.fr (Bx.new w 0 0 0 ⟨#[]⟩ 64) hF1 hnb)
  have hF1' := hidF (show Fr b w w1 from Fr.trans (w1 := w.alloc (.cells #[.int .i64 0, .int .i64 0, .int .u64 0, .string ⟨#[]⟩] 64)) (Fr.of (by repeat (first | (with_reducible exact Below.refl _ _) | (with_reducible refine below_al ?_ _) | (with_reducible refine below_drewN ?_ _) | (with_reducible refine Below.drew ?_) | (with_reducible refine below_via (by assumption) ?_) | (with_reducible refine below_sc ?_ ?_ _; · (first | (simp; done) | (simp; omega) | omega))))) hF1)
  have hs1 := hF1.size
  simp at hs1
  clear hF1
  have hnn : ¬ w1.heap.size = w.heap.size := by omega
  have hnn' : ¬ w.heap.size = w1.heap.size := by omega
  have hnb1 : ¬ w1.heap.size = b := by omega
  go_wp2_with (first | (go_at_call 105; (with_reducible refine (HN.out _ (hR1.below (by repeat (first | (with_reducible exact Below.refl _ _) | (with_reducible refine below_al ?_ _) | (with_reducible refine below_drewN ?_ _) | (with_reducible refine Below.drew ?_) | (with_reducible refine below_via (by assumption) ?_) | (with_reducible refine below_sc ?_ ?_ _; · (first | (simp; done) | (simp; omega) | omega)))))).mono ?_); rintro e w3 ⟨rfl, hR3, hF3⟩; have HX3 := hidF (Bx.fr (HX.out.al _) hF3 hnb); have HY3 := hidF (Bx.fr (Bx.new w1 1 0 0 ⟨#[]⟩ 64) hF3 hnb1); have hF3' := hidF (Fr.trans (hF1'.out.al _) hF3); have hs3 := hF3.size; simp at hs3; clear hF3; obtain ⟨d0, d1, d2, d3, e0, e1, e2, e3⟩ := HY3.out) | (go_at_call 67; (with_reducible refine (HS.out _).mono ?_); rintro e w2 ⟨rfl, hb2⟩; have hR2 := hidF (Rd.below (Rd.set hR3 hnb1 _ _) hb2); have hF2' := hidF (Fr.add (Fr.new hF3'.out (by omega) _ _) hb2); have hs2 := hb2.size; simp at hs2; obtain ⟨a0, a1, a2, a3, b0, b1, b2, b3⟩ := (Bx.other HX3.out hnn _ _).below hb2; clear d0 d1 d2 d3 e0 e1 e2 e3; obtain ⟨d0, d1, d2, d3, e0, e1, e2, e3⟩ := (Bx.setN HY3.out _).below hb2; clear hb2) | (go_at_call 82; (with_reducible refine (rmust_t _ _).mono ?_); rintro e w9 ⟨rfl, rfl⟩))
  refine bodyPost_ret (v := .agg #[.int .i64 (1), .int .i64 (((N : Int) - 9223372036854775808)), .int .u64 (0), .string (⟨#[]⟩)]) (by simp [results, Tryz.results83, go_sem, *]) rfl ⟨rfl, ?_, ?_⟩
  · repeat (refine Rd.set ?_ (by omega) _ _)
    exact hR2.out
  · repeat (refine Fr.new ?_ (by omega) _ _)
    exact hF2'.out

set_option maxRecDepth 100000 in
set_option maxHeartbeats 2000000 in
theorem value_w1f (b : Nat) (l : List UInt8) (w : World) (h : Rd w b (1 :: l)) (hl : l.length ≤ 140737488355326) (h8 : 8 ≤ l.length) (hs : soundV 1 ((numB (l.take 8) : Int) - 9223372036854775808) 0 ⟨#[]⟩ = false) :
    Calls Tryz.prog 83 #[.pointer (some ⟨b, 0, none⟩)] w (OutVr b (.error 4) w) := by
  have hN : numB (l.take 8) < 18446744073709551616 := by
    have h1 := numB_lt (l.take 8)
    rw [List.length_take, Nat.min_eq_left h8] at h1
    have e8 : 256 ^ 8 = 18446744073709551616 := by decide
    omega
  have hlt := h.lt
  have HU := hidF (fun W (hR : Rd W b (1 :: l)) => take_ok b (1 :: l) 1 1 rfl W hR (by simp) (by simp; omega))
  simp only [List.take_succ_cons, List.take_zero, List.drop_succ_cons, List.drop_zero] at HU
  have hix := idx0 1
  have hnb : ¬ w.heap.size = b := by omega
  have HN := hidF (fun W (hR : Rd W b l) => number_ok b l W hR h8 (by omega))
  have hxn := xorN (numB (l.take 8)) hN
  have HS := hidF (fun W => sound_c 1 ((numB (l.take 8) : Int) - 9223372036854775808) 0 ⟨#[]⟩ W (by constructor <;> omega))
  rw [hs] at HS
  clear hs
  generalize numB (l.take 8) = N at *
  go_enter Tryz.func83, Tryz.ntmps83
  go_wp2_with fail
  (with_reducible refine (HU.out _ (h.below (by repeat (first | (with_reducible exact Below.refl _ _) | (with_reducible refine below_al ?_ _) | (with_reducible refine below_drewN ?_ _) | (with_reducible refine Below.drew ?_) | (with_reducible refine below_via (by assumption) ?_) | (with_reducible refine below_sc ?_ ?_ _; · (first | (simp; done) | (simp; omega) | omega)))))).mono ?_)
  rintro e w1 ⟨rfl, hR1, hF1⟩
  have HX := hidF (Bx.fr (Bx.new w 0 0 0 ⟨#[]⟩ 64) hF1 hnb)
  have hF1' := hidF (show Fr b w w1 from Fr.trans (w1 := w.alloc (.cells #[.int .i64 0, .int .i64 0, .int .u64 0, .string ⟨#[]⟩] 64)) (Fr.of (by repeat (first | (with_reducible exact Below.refl _ _) | (with_reducible refine below_al ?_ _) | (with_reducible refine below_drewN ?_ _) | (with_reducible refine Below.drew ?_) | (with_reducible refine below_via (by assumption) ?_) | (with_reducible refine below_sc ?_ ?_ _; · (first | (simp; done) | (simp; omega) | omega))))) hF1)
  have hs1 := hF1.size
  simp at hs1
  clear hF1
  have hnn : ¬ w1.heap.size = w.heap.size := by omega
  have hnn' : ¬ w.heap.size = w1.heap.size := by omega
  have hnb1 : ¬ w1.heap.size = b := by omega
  go_wp2_with (first | (go_at_call 105; (with_reducible refine (HN.out _ (hR1.below (by repeat (first | (with_reducible exact Below.refl _ _) | (with_reducible refine below_al ?_ _) | (with_reducible refine below_drewN ?_ _) | (with_reducible refine Below.drew ?_) | (with_reducible refine below_via (by assumption) ?_) | (with_reducible refine below_sc ?_ ?_ _; · (first | (simp; done) | (simp; omega) | omega)))))).mono ?_); rintro e w3 ⟨rfl, hR3, hF3⟩; have HX3 := hidF (Bx.fr (HX.out.al _) hF3 hnb); have HY3 := hidF (Bx.fr (Bx.new w1 1 0 0 ⟨#[]⟩ 64) hF3 hnb1); have hF3' := hidF (Fr.trans (hF1'.out.al _) hF3); have hs3 := hF3.size; simp at hs3; clear hF3; obtain ⟨d0, d1, d2, d3, e0, e1, e2, e3⟩ := HY3.out) | (go_at_call 67; (with_reducible refine (HS.out _).mono ?_); rintro e w2 ⟨rfl, hb2⟩; have hR2 := hidF (Rd.below (Rd.set hR3 hnb1 _ _) hb2); have hF2' := hidF (Fr.add (Fr.new hF3'.out (by omega) _ _) hb2); have hs2 := hb2.size; simp at hs2; obtain ⟨a0, a1, a2, a3, b0, b1, b2, b3⟩ := (Bx.other HX3.out hnn _ _).below hb2; clear d0 d1 d2 d3 e0 e1 e2 e3; obtain ⟨d0, d1, d2, d3, e0, e1, e2, e3⟩ := (Bx.setN HY3.out _).below hb2; clear hb2) | (go_at_call 82; (with_reducible refine (rmust_f _ _).mono ?_); rintro e w9 ⟨rfl, rfl⟩))
  exact ⟨rfl, rfl, hF2'.out⟩

set_option maxRecDepth 100000 in
set_option maxHeartbeats 2000000 in
theorem value_w1s (b : Nat) (l : List UInt8) (w : World) (h : Rd w b (1 :: l)) (h8 : l.length < 8) :
    Calls Tryz.prog 83 #[.pointer (some ⟨b, 0, none⟩)] w (OutVr b (.error 3) w) := by
  have hlt := h.lt
  have HU := hidF (fun W (hR : Rd W b (1 :: l)) => take_ok b (1 :: l) 1 1 rfl W hR (by simp) (by simp; omega))
  simp only [List.take_succ_cons, List.take_zero, List.drop_succ_cons, List.drop_zero] at HU
  have hix := idx0 1
  have hnb : ¬ w.heap.size = b := by omega
  have HN := hidF (fun W (hR : Rd W b l) => number_short b l W hR h8)
  go_enter Tryz.func83, Tryz.ntmps83
  go_wp2_with fail
  (with_reducible refine (HU.out _ (h.below (by repeat (first | (with_reducible exact Below.refl _ _) | (with_reducible refine below_al ?_ _) | (with_reducible refine below_drewN ?_ _) | (with_reducible refine Below.drew ?_) | (with_reducible refine below_via (by assumption) ?_) | (with_reducible refine below_sc ?_ ?_ _; · (first | (simp; done) | (simp; omega) | omega)))))).mono ?_)
  rintro e w1 ⟨rfl, hR1, hF1⟩
  have HX := hidF (Bx.fr (Bx.new w 0 0 0 ⟨#[]⟩ 64) hF1 hnb)
  have hF1' := hidF (show Fr b w w1 from Fr.trans (w1 := w.alloc (.cells #[.int .i64 0, .int .i64 0, .int .u64 0, .string ⟨#[]⟩] 64)) (Fr.of (by repeat (first | (with_reducible exact Below.refl _ _) | (with_reducible refine below_al ?_ _) | (with_reducible refine below_drewN ?_ _) | (with_reducible refine Below.drew ?_) | (with_reducible refine below_via (by assumption) ?_) | (with_reducible refine below_sc ?_ ?_ _; · (first | (simp; done) | (simp; omega) | omega))))) hF1)
  have hs1 := hF1.size
  simp at hs1
  clear hF1
  have hnn : ¬ w1.heap.size = w.heap.size := by omega
  have hnn' : ¬ w.heap.size = w1.heap.size := by omega
  have hnb1 : ¬ w1.heap.size = b := by omega
  go_wp2_with (go_at_call 105; (with_reducible refine (HN.out _ (hR1.below (by repeat (first | (with_reducible exact Below.refl _ _) | (with_reducible refine below_al ?_ _) | (with_reducible refine below_drewN ?_ _) | (with_reducible refine Below.drew ?_) | (with_reducible refine below_via (by assumption) ?_) | (with_reducible refine below_sc ?_ ?_ _; · (first | (simp; done) | (simp; omega) | omega)))))).mono ?_); rintro e w3 ⟨rfl, rfl⟩)
  exact ⟨rfl, rfl, hF1'.out.al _⟩

set_option maxRecDepth 100000 in
set_option maxHeartbeats 2000000 in
theorem value_w2t (b : Nat) (l : List UInt8) (w : World) (h : Rd w b (2 :: l)) (hl : l.length ≤ 140737488355326) (h8 : 8 ≤ l.length) (hs : soundV 2 ((numB (l.take 8) : Int) - 9223372036854775808) 0 ⟨#[]⟩ = true) :
    Calls Tryz.prog 83 #[.pointer (some ⟨b, 0, none⟩)] w (OutVr b (.ok (⟨2, ((numB (l.take 8) : Int) - 9223372036854775808), 0, ⟨#[]⟩⟩, l.drop 8)) w) := by
  have hN : numB (l.take 8) < 18446744073709551616 := by
    have h1 := numB_lt (l.take 8)
    rw [List.length_take, Nat.min_eq_left h8] at h1
    have e8 : 256 ^ 8 = 18446744073709551616 := by decide
    omega
  have hlt := h.lt
  have HU := hidF (fun W (hR : Rd W b (2 :: l)) => take_ok b (2 :: l) 1 1 rfl W hR (by simp) (by simp; omega))
  simp only [List.take_succ_cons, List.take_zero, List.drop_succ_cons, List.drop_zero] at HU
  have hix := idx0 2
  have hnb : ¬ w.heap.size = b := by omega
  have HN := hidF (fun W (hR : Rd W b l) => number_ok b l W hR h8 (by omega))
  have hxn := xorN (numB (l.take 8)) hN
  have HS := hidF (fun W => sound_c 2 ((numB (l.take 8) : Int) - 9223372036854775808) 0 ⟨#[]⟩ W (by constructor <;> omega))
  rw [hs] at HS
  clear hs
  generalize numB (l.take 8) = N at *
  go_enter Tryz.func83, Tryz.ntmps83
  go_wp2_with fail
  (with_reducible refine (HU.out _ (h.below (by repeat (first | (with_reducible exact Below.refl _ _) | (with_reducible refine below_al ?_ _) | (with_reducible refine below_drewN ?_ _) | (with_reducible refine Below.drew ?_) | (with_reducible refine below_via (by assumption) ?_) | (with_reducible refine below_sc ?_ ?_ _; · (first | (simp; done) | (simp; omega) | omega)))))).mono ?_)
  rintro e w1 ⟨rfl, hR1, hF1⟩
  have HX := hidF (Bx.fr (Bx.new w 0 0 0 ⟨#[]⟩ 64) hF1 hnb)
  have hF1' := hidF (show Fr b w w1 from Fr.trans (w1 := w.alloc (.cells #[.int .i64 0, .int .i64 0, .int .u64 0, .string ⟨#[]⟩] 64)) (Fr.of (by repeat (first | (with_reducible exact Below.refl _ _) | (with_reducible refine below_al ?_ _) | (with_reducible refine below_drewN ?_ _) | (with_reducible refine Below.drew ?_) | (with_reducible refine below_via (by assumption) ?_) | (with_reducible refine below_sc ?_ ?_ _; · (first | (simp; done) | (simp; omega) | omega))))) hF1)
  have hs1 := hF1.size
  simp at hs1
  clear hF1
  have hnn : ¬ w1.heap.size = w.heap.size := by omega
  have hnn' : ¬ w.heap.size = w1.heap.size := by omega
  have hnb1 : ¬ w1.heap.size = b := by omega
  go_wp2_with (first | (go_at_call 105; (with_reducible refine (HN.out _ (hR1.below (by repeat (first | (with_reducible exact Below.refl _ _) | (with_reducible refine below_al ?_ _) | (with_reducible refine below_drewN ?_ _) | (with_reducible refine Below.drew ?_) | (with_reducible refine below_via (by assumption) ?_) | (with_reducible refine below_sc ?_ ?_ _; · (first | (simp; done) | (simp; omega) | omega)))))).mono ?_); rintro e w3 ⟨rfl, hR3, hF3⟩; have HX3 := hidF (Bx.fr (HX.out.al _) hF3 hnb); have HY3 := hidF (Bx.fr (Bx.new w1 2 0 0 ⟨#[]⟩ 64) hF3 hnb1); have hF3' := hidF (Fr.trans (hF1'.out.al _) hF3); have hs3 := hF3.size; simp at hs3; clear hF3; obtain ⟨d0, d1, d2, d3, e0, e1, e2, e3⟩ := HY3.out) | (go_at_call 67; (with_reducible refine (HS.out _).mono ?_); rintro e w2 ⟨rfl, hb2⟩; have hR2 := hidF (Rd.below (Rd.set hR3 hnb1 _ _) hb2); have hF2' := hidF (Fr.add (Fr.new hF3'.out (by omega) _ _) hb2); have hs2 := hb2.size; simp at hs2; obtain ⟨a0, a1, a2, a3, b0, b1, b2, b3⟩ := (Bx.other HX3.out hnn _ _).below hb2; clear d0 d1 d2 d3 e0 e1 e2 e3; obtain ⟨d0, d1, d2, d3, e0, e1, e2, e3⟩ := (Bx.setN HY3.out _).below hb2; clear hb2) | (go_at_call 82; (with_reducible refine (rmust_t _ _).mono ?_); rintro e w9 ⟨rfl, rfl⟩))
  refine bodyPost_ret (v := .agg #[.int .i64 (2), .int .i64 (((N : Int) - 9223372036854775808)), .int .u64 (0), .string (⟨#[]⟩)]) (by simp [results, Tryz.results83, go_sem, *]) rfl ⟨rfl, ?_, ?_⟩
  · repeat (refine Rd.set ?_ (by omega) _ _)
    exact hR2.out
  · repeat (refine Fr.new ?_ (by omega) _ _)
    exact hF2'.out

set_option maxRecDepth 100000 in
set_option maxHeartbeats 2000000 in
theorem value_w2f (b : Nat) (l : List UInt8) (w : World) (h : Rd w b (2 :: l)) (hl : l.length ≤ 140737488355326) (h8 : 8 ≤ l.length) (hs : soundV 2 ((numB (l.take 8) : Int) - 9223372036854775808) 0 ⟨#[]⟩ = false) :
    Calls Tryz.prog 83 #[.pointer (some ⟨b, 0, none⟩)] w (OutVr b (.error 4) w) := by
  have hN : numB (l.take 8) < 18446744073709551616 := by
    have h1 := numB_lt (l.take 8)
    rw [List.length_take, Nat.min_eq_left h8] at h1
    have e8 : 256 ^ 8 = 18446744073709551616 := by decide
    omega
  have hlt := h.lt
  have HU := hidF (fun W (hR : Rd W b (2 :: l)) => take_ok b (2 :: l) 1 1 rfl W hR (by simp) (by simp; omega))
  simp only [List.take_succ_cons, List.take_zero, List.drop_succ_cons, List.drop_zero] at HU
  have hix := idx0 2
  have hnb : ¬ w.heap.size = b := by omega
  have HN := hidF (fun W (hR : Rd W b l) => number_ok b l W hR h8 (by omega))
  have hxn := xorN (numB (l.take 8)) hN
  have HS := hidF (fun W => sound_c 2 ((numB (l.take 8) : Int) - 9223372036854775808) 0 ⟨#[]⟩ W (by constructor <;> omega))
  rw [hs] at HS
  clear hs
  generalize numB (l.take 8) = N at *
  go_enter Tryz.func83, Tryz.ntmps83
  go_wp2_with fail
  (with_reducible refine (HU.out _ (h.below (by repeat (first | (with_reducible exact Below.refl _ _) | (with_reducible refine below_al ?_ _) | (with_reducible refine below_drewN ?_ _) | (with_reducible refine Below.drew ?_) | (with_reducible refine below_via (by assumption) ?_) | (with_reducible refine below_sc ?_ ?_ _; · (first | (simp; done) | (simp; omega) | omega)))))).mono ?_)
  rintro e w1 ⟨rfl, hR1, hF1⟩
  have HX := hidF (Bx.fr (Bx.new w 0 0 0 ⟨#[]⟩ 64) hF1 hnb)
  have hF1' := hidF (show Fr b w w1 from Fr.trans (w1 := w.alloc (.cells #[.int .i64 0, .int .i64 0, .int .u64 0, .string ⟨#[]⟩] 64)) (Fr.of (by repeat (first | (with_reducible exact Below.refl _ _) | (with_reducible refine below_al ?_ _) | (with_reducible refine below_drewN ?_ _) | (with_reducible refine Below.drew ?_) | (with_reducible refine below_via (by assumption) ?_) | (with_reducible refine below_sc ?_ ?_ _; · (first | (simp; done) | (simp; omega) | omega))))) hF1)
  have hs1 := hF1.size
  simp at hs1
  clear hF1
  have hnn : ¬ w1.heap.size = w.heap.size := by omega
  have hnn' : ¬ w.heap.size = w1.heap.size := by omega
  have hnb1 : ¬ w1.heap.size = b := by omega
  go_wp2_with (first | (go_at_call 105; (with_reducible refine (HN.out _ (hR1.below (by repeat (first | (with_reducible exact Below.refl _ _) | (with_reducible refine below_al ?_ _) | (with_reducible refine below_drewN ?_ _) | (with_reducible refine Below.drew ?_) | (with_reducible refine below_via (by assumption) ?_) | (with_reducible refine below_sc ?_ ?_ _; · (first | (simp; done) | (simp; omega) | omega)))))).mono ?_); rintro e w3 ⟨rfl, hR3, hF3⟩; have HX3 := hidF (Bx.fr (HX.out.al _) hF3 hnb); have HY3 := hidF (Bx.fr (Bx.new w1 2 0 0 ⟨#[]⟩ 64) hF3 hnb1); have hF3' := hidF (Fr.trans (hF1'.out.al _) hF3); have hs3 := hF3.size; simp at hs3; clear hF3; obtain ⟨d0, d1, d2, d3, e0, e1, e2, e3⟩ := HY3.out) | (go_at_call 67; (with_reducible refine (HS.out _).mono ?_); rintro e w2 ⟨rfl, hb2⟩; have hR2 := hidF (Rd.below (Rd.set hR3 hnb1 _ _) hb2); have hF2' := hidF (Fr.add (Fr.new hF3'.out (by omega) _ _) hb2); have hs2 := hb2.size; simp at hs2; obtain ⟨a0, a1, a2, a3, b0, b1, b2, b3⟩ := (Bx.other HX3.out hnn _ _).below hb2; clear d0 d1 d2 d3 e0 e1 e2 e3; obtain ⟨d0, d1, d2, d3, e0, e1, e2, e3⟩ := (Bx.setN HY3.out _).below hb2; clear hb2) | (go_at_call 82; (with_reducible refine (rmust_f _ _).mono ?_); rintro e w9 ⟨rfl, rfl⟩))
  exact ⟨rfl, rfl, hF2'.out⟩

set_option maxRecDepth 100000 in
set_option maxHeartbeats 2000000 in
theorem value_w2s (b : Nat) (l : List UInt8) (w : World) (h : Rd w b (2 :: l)) (h8 : l.length < 8) :
    Calls Tryz.prog 83 #[.pointer (some ⟨b, 0, none⟩)] w (OutVr b (.error 3) w) := by
  have hlt := h.lt
  have HU := hidF (fun W (hR : Rd W b (2 :: l)) => take_ok b (2 :: l) 1 1 rfl W hR (by simp) (by simp; omega))
  simp only [List.take_succ_cons, List.take_zero, List.drop_succ_cons, List.drop_zero] at HU
  have hix := idx0 2
  have hnb : ¬ w.heap.size = b := by omega
  have HN := hidF (fun W (hR : Rd W b l) => number_short b l W hR h8)
  go_enter Tryz.func83, Tryz.ntmps83
  go_wp2_with fail
  (with_reducible refine (HU.out _ (h.below (by repeat (first | (with_reducible exact Below.refl _ _) | (with_reducible refine below_al ?_ _) | (with_reducible refine below_drewN ?_ _) | (with_reducible refine Below.drew ?_) | (with_reducible refine below_via (by assumption) ?_) | (with_reducible refine below_sc ?_ ?_ _; · (first | (simp; done) | (simp; omega) | omega)))))).mono ?_)
  rintro e w1 ⟨rfl, hR1, hF1⟩
  have HX := hidF (Bx.fr (Bx.new w 0 0 0 ⟨#[]⟩ 64) hF1 hnb)
  have hF1' := hidF (show Fr b w w1 from Fr.trans (w1 := w.alloc (.cells #[.int .i64 0, .int .i64 0, .int .u64 0, .string ⟨#[]⟩] 64)) (Fr.of (by repeat (first | (with_reducible exact Below.refl _ _) | (with_reducible refine below_al ?_ _) | (with_reducible refine below_drewN ?_ _) | (with_reducible refine Below.drew ?_) | (with_reducible refine below_via (by assumption) ?_) | (with_reducible refine below_sc ?_ ?_ _; · (first | (simp; done) | (simp; omega) | omega))))) hF1)
  have hs1 := hF1.size
  simp at hs1
  clear hF1
  have hnn : ¬ w1.heap.size = w.heap.size := by omega
  have hnn' : ¬ w.heap.size = w1.heap.size := by omega
  have hnb1 : ¬ w1.heap.size = b := by omega
  go_wp2_with (go_at_call 105; (with_reducible refine (HN.out _ (hR1.below (by repeat (first | (with_reducible exact Below.refl _ _) | (with_reducible refine below_al ?_ _) | (with_reducible refine below_drewN ?_ _) | (with_reducible refine Below.drew ?_) | (with_reducible refine below_via (by assumption) ?_) | (with_reducible refine below_sc ?_ ?_ _; · (first | (simp; done) | (simp; omega) | omega)))))).mono ?_); rintro e w3 ⟨rfl, rfl⟩)
  exact ⟨rfl, rfl, hF1'.out.al _⟩

set_option maxRecDepth 100000 in
set_option maxHeartbeats 2000000 in
theorem value_w3t (b : Nat) (l : List UInt8) (w : World) (h : Rd w b (3 :: l)) (hl : l.length ≤ 140737488355326) (h8 : 8 ≤ l.length) (hs : soundV 3 0 (backI (numB (l.take 8))) ⟨#[]⟩ = true) :
    Calls Tryz.prog 83 #[.pointer (some ⟨b, 0, none⟩)] w (OutVr b (.ok (⟨3, 0, (backI (numB (l.take 8))), ⟨#[]⟩⟩, l.drop 8)) w) := by
  have hN : numB (l.take 8) < 18446744073709551616 := by
    have h1 := numB_lt (l.take 8)
    rw [List.length_take, Nat.min_eq_left h8] at h1
    have e8 : 256 ^ 8 = 18446744073709551616 := by decide
    omega
  have hlt := h.lt
  have HU := hidF (fun W (hR : Rd W b (3 :: l)) => take_ok b (3 :: l) 1 1 rfl W hR (by simp) (by simp; omega))
  simp only [List.take_succ_cons, List.take_zero, List.drop_succ_cons, List.drop_zero] at HU
  have hix := idx0 3
  have hnb : ¬ w.heap.size = b := by omega
  have HN := hidF (fun W (hR : Rd W b l) => number_ok b l W hR h8 (by omega))
  have HBk := hidF (fun W => back_c (numB (l.take 8) : Int) ⟨by omega, by omega⟩ W)
  have HS := hidF (fun W => sound_c 3 0 (backI (numB (l.take 8))) ⟨#[]⟩ W (by constructor <;> omega))
  rw [hs] at HS
  clear hs
  generalize numB (l.take 8) = N at *
  generalize backI (N : Int) = F at *
  go_enter Tryz.func83, Tryz.ntmps83
  go_wp2_with fail
  (with_reducible refine (HU.out _ (h.below (by repeat (first | (with_reducible exact Below.refl _ _) | (with_reducible refine below_al ?_ _) | (with_reducible refine below_drewN ?_ _) | (with_reducible refine Below.drew ?_) | (with_reducible refine below_via (by assumption) ?_) | (with_reducible refine below_sc ?_ ?_ _; · (first | (simp; done) | (simp; omega) | omega)))))).mono ?_)
  rintro e w1 ⟨rfl, hR1, hF1⟩
  have HX := hidF (Bx.fr (Bx.new w 0 0 0 ⟨#[]⟩ 64) hF1 hnb)
  have hF1' := hidF (show Fr b w w1 from Fr.trans (w1 := w.alloc (.cells #[.int .i64 0, .int .i64 0, .int .u64 0, .string ⟨#[]⟩] 64)) (Fr.of (by repeat (first | (with_reducible exact Below.refl _ _) | (with_reducible refine below_al ?_ _) | (with_reducible refine below_drewN ?_ _) | (with_reducible refine Below.drew ?_) | (with_reducible refine below_via (by assumption) ?_) | (with_reducible refine below_sc ?_ ?_ _; · (first | (simp; done) | (simp; omega) | omega))))) hF1)
  have hs1 := hF1.size
  simp at hs1
  clear hF1
  have hnn : ¬ w1.heap.size = w.heap.size := by omega
  have hnn' : ¬ w.heap.size = w1.heap.size := by omega
  have hnb1 : ¬ w1.heap.size = b := by omega
  go_wp2_with (first | (go_at_call 105; (with_reducible refine (HN.out _ (hR1.below (by repeat (first | (with_reducible exact Below.refl _ _) | (with_reducible refine below_al ?_ _) | (with_reducible refine below_drewN ?_ _) | (with_reducible refine Below.drew ?_) | (with_reducible refine below_via (by assumption) ?_) | (with_reducible refine below_sc ?_ ?_ _; · (first | (simp; done) | (simp; omega) | omega)))))).mono ?_); rintro e w3 ⟨rfl, hR3, hF3⟩; have HX3 := hidF (Bx.fr (HX.out.al _) hF3 hnb); have HY3 := hidF (Bx.fr (Bx.new w1 3 0 0 ⟨#[]⟩ 64) hF3 hnb1); have hF3' := hidF (Fr.trans (hF1'.out.al _) hF3); have hs3 := hF3.size; simp at hs3; clear hF3; obtain ⟨d0, d1, d2, d3, e0, e1, e2, e3⟩ := HY3.out) | (go_at_call 106; (with_reducible refine (HBk.out _).mono ?_); rintro e w4 ⟨rfl, hb4⟩; have hR4 := hidF (Rd.below hR3 hb4); have HX4 := hidF (HX3.out.below hb4); have hF4' := hidF (Fr.add hF3'.out hb4); have hs4 := hb4.size; have HY4 := hidF (HY3.out.below hb4); clear d0 d1 d2 d3 e0 e1 e2 e3; obtain ⟨d0, d1, d2, d3, e0, e1, e2, e3⟩ := HY4.out; clear hb4) | (go_at_call 67; (with_reducible refine (HS.out _).mono ?_); rintro e w2 ⟨rfl, hb2⟩; have hR2 := hidF (Rd.below (Rd.set hR4.out hnb1 _ _) hb2); have hF2' := hidF (Fr.add (Fr.new hF4'.out (by omega) _ _) hb2); have hs2 := hb2.size; simp at hs2; obtain ⟨a0, a1, a2, a3, b0, b1, b2, b3⟩ := (Bx.other HX4.out hnn _ _).below hb2; clear d0 d1 d2 d3 e0 e1 e2 e3; obtain ⟨d0, d1, d2, d3, e0, e1, e2, e3⟩ := (Bx.setF HY4.out _).below hb2; clear hb2) | (go_at_call 82; (with_reducible refine (rmust_t _ _).mono ?_); rintro e w9 ⟨rfl, rfl⟩))
  refine bodyPost_ret (v := .agg #[.int .i64 (3), .int .i64 (0), .int .u64 (F), .string (⟨#[]⟩)]) (by simp [results, Tryz.results83, go_sem, *]) rfl ⟨rfl, ?_, ?_⟩
  · repeat (refine Rd.set ?_ (by omega) _ _)
    exact hR2.out
  · repeat (refine Fr.new ?_ (by omega) _ _)
    exact hF2'.out

set_option maxRecDepth 100000 in
set_option maxHeartbeats 2000000 in
theorem value_w3f (b : Nat) (l : List UInt8) (w : World) (h : Rd w b (3 :: l)) (hl : l.length ≤ 140737488355326) (h8 : 8 ≤ l.length) (hs : soundV 3 0 (backI (numB (l.take 8))) ⟨#[]⟩ = false) :
    Calls Tryz.prog 83 #[.pointer (some ⟨b, 0, none⟩)] w (OutVr b (.error 4) w) := by
  have hN : numB (l.take 8) < 18446744073709551616 := by
    have h1 := numB_lt (l.take 8)
    rw [List.length_take, Nat.min_eq_left h8] at h1
    have e8 : 256 ^ 8 = 18446744073709551616 := by decide
    omega
  have hlt := h.lt
  have HU := hidF (fun W (hR : Rd W b (3 :: l)) => take_ok b (3 :: l) 1 1 rfl W hR (by simp) (by simp; omega))
  simp only [List.take_succ_cons, List.take_zero, List.drop_succ_cons, List.drop_zero] at HU
  have hix := idx0 3
  have hnb : ¬ w.heap.size = b := by omega
  have HN := hidF (fun W (hR : Rd W b l) => number_ok b l W hR h8 (by omega))
  have HBk := hidF (fun W => back_c (numB (l.take 8) : Int) ⟨by omega, by omega⟩ W)
  have HS := hidF (fun W => sound_c 3 0 (backI (numB (l.take 8))) ⟨#[]⟩ W (by constructor <;> omega))
  rw [hs] at HS
  clear hs
  generalize numB (l.take 8) = N at *
  generalize backI (N : Int) = F at *
  go_enter Tryz.func83, Tryz.ntmps83
  go_wp2_with fail
  (with_reducible refine (HU.out _ (h.below (by repeat (first | (with_reducible exact Below.refl _ _) | (with_reducible refine below_al ?_ _) | (with_reducible refine below_drewN ?_ _) | (with_reducible refine Below.drew ?_) | (with_reducible refine below_via (by assumption) ?_) | (with_reducible refine below_sc ?_ ?_ _; · (first | (simp; done) | (simp; omega) | omega)))))).mono ?_)
  rintro e w1 ⟨rfl, hR1, hF1⟩
  have HX := hidF (Bx.fr (Bx.new w 0 0 0 ⟨#[]⟩ 64) hF1 hnb)
  have hF1' := hidF (show Fr b w w1 from Fr.trans (w1 := w.alloc (.cells #[.int .i64 0, .int .i64 0, .int .u64 0, .string ⟨#[]⟩] 64)) (Fr.of (by repeat (first | (with_reducible exact Below.refl _ _) | (with_reducible refine below_al ?_ _) | (with_reducible refine below_drewN ?_ _) | (with_reducible refine Below.drew ?_) | (with_reducible refine below_via (by assumption) ?_) | (with_reducible refine below_sc ?_ ?_ _; · (first | (simp; done) | (simp; omega) | omega))))) hF1)
  have hs1 := hF1.size
  simp at hs1
  clear hF1
  have hnn : ¬ w1.heap.size = w.heap.size := by omega
  have hnn' : ¬ w.heap.size = w1.heap.size := by omega
  have hnb1 : ¬ w1.heap.size = b := by omega
  go_wp2_with (first | (go_at_call 105; (with_reducible refine (HN.out _ (hR1.below (by repeat (first | (with_reducible exact Below.refl _ _) | (with_reducible refine below_al ?_ _) | (with_reducible refine below_drewN ?_ _) | (with_reducible refine Below.drew ?_) | (with_reducible refine below_via (by assumption) ?_) | (with_reducible refine below_sc ?_ ?_ _; · (first | (simp; done) | (simp; omega) | omega)))))).mono ?_); rintro e w3 ⟨rfl, hR3, hF3⟩; have HX3 := hidF (Bx.fr (HX.out.al _) hF3 hnb); have HY3 := hidF (Bx.fr (Bx.new w1 3 0 0 ⟨#[]⟩ 64) hF3 hnb1); have hF3' := hidF (Fr.trans (hF1'.out.al _) hF3); have hs3 := hF3.size; simp at hs3; clear hF3; obtain ⟨d0, d1, d2, d3, e0, e1, e2, e3⟩ := HY3.out) | (go_at_call 106; (with_reducible refine (HBk.out _).mono ?_); rintro e w4 ⟨rfl, hb4⟩; have hR4 := hidF (Rd.below hR3 hb4); have HX4 := hidF (HX3.out.below hb4); have hF4' := hidF (Fr.add hF3'.out hb4); have hs4 := hb4.size; have HY4 := hidF (HY3.out.below hb4); clear d0 d1 d2 d3 e0 e1 e2 e3; obtain ⟨d0, d1, d2, d3, e0, e1, e2, e3⟩ := HY4.out; clear hb4) | (go_at_call 67; (with_reducible refine (HS.out _).mono ?_); rintro e w2 ⟨rfl, hb2⟩; have hR2 := hidF (Rd.below (Rd.set hR4.out hnb1 _ _) hb2); have hF2' := hidF (Fr.add (Fr.new hF4'.out (by omega) _ _) hb2); have hs2 := hb2.size; simp at hs2; obtain ⟨a0, a1, a2, a3, b0, b1, b2, b3⟩ := (Bx.other HX4.out hnn _ _).below hb2; clear d0 d1 d2 d3 e0 e1 e2 e3; obtain ⟨d0, d1, d2, d3, e0, e1, e2, e3⟩ := (Bx.setF HY4.out _).below hb2; clear hb2) | (go_at_call 82; (with_reducible refine (rmust_f _ _).mono ?_); rintro e w9 ⟨rfl, rfl⟩))
  exact ⟨rfl, rfl, hF2'.out⟩

set_option maxRecDepth 100000 in
set_option maxHeartbeats 2000000 in
theorem value_w3s (b : Nat) (l : List UInt8) (w : World) (h : Rd w b (3 :: l)) (h8 : l.length < 8) :
    Calls Tryz.prog 83 #[.pointer (some ⟨b, 0, none⟩)] w (OutVr b (.error 3) w) := by
  have hlt := h.lt
  have HU := hidF (fun W (hR : Rd W b (3 :: l)) => take_ok b (3 :: l) 1 1 rfl W hR (by simp) (by simp; omega))
  simp only [List.take_succ_cons, List.take_zero, List.drop_succ_cons, List.drop_zero] at HU
  have hix := idx0 3
  have hnb : ¬ w.heap.size = b := by omega
  have HN := hidF (fun W (hR : Rd W b l) => number_short b l W hR h8)
  go_enter Tryz.func83, Tryz.ntmps83
  go_wp2_with fail
  (with_reducible refine (HU.out _ (h.below (by repeat (first | (with_reducible exact Below.refl _ _) | (with_reducible refine below_al ?_ _) | (with_reducible refine below_drewN ?_ _) | (with_reducible refine Below.drew ?_) | (with_reducible refine below_via (by assumption) ?_) | (with_reducible refine below_sc ?_ ?_ _; · (first | (simp; done) | (simp; omega) | omega)))))).mono ?_)
  rintro e w1 ⟨rfl, hR1, hF1⟩
  have HX := hidF (Bx.fr (Bx.new w 0 0 0 ⟨#[]⟩ 64) hF1 hnb)
  have hF1' := hidF (show Fr b w w1 from Fr.trans (w1 := w.alloc (.cells #[.int .i64 0, .int .i64 0, .int .u64 0, .string ⟨#[]⟩] 64)) (Fr.of (by repeat (first | (with_reducible exact Below.refl _ _) | (with_reducible refine below_al ?_ _) | (with_reducible refine below_drewN ?_ _) | (with_reducible refine Below.drew ?_) | (with_reducible refine below_via (by assumption) ?_) | (with_reducible refine below_sc ?_ ?_ _; · (first | (simp; done) | (simp; omega) | omega))))) hF1)
  have hs1 := hF1.size
  simp at hs1
  clear hF1
  have hnn : ¬ w1.heap.size = w.heap.size := by omega
  have hnn' : ¬ w.heap.size = w1.heap.size := by omega
  have hnb1 : ¬ w1.heap.size = b := by omega
  go_wp2_with (go_at_call 105; (with_reducible refine (HN.out _ (hR1.below (by repeat (first | (with_reducible exact Below.refl _ _) | (with_reducible refine below_al ?_ _) | (with_reducible refine below_drewN ?_ _) | (with_reducible refine Below.drew ?_) | (with_reducible refine below_via (by assumption) ?_) | (with_reducible refine below_sc ?_ ?_ _; · (first | (simp; done) | (simp; omega) | omega)))))).mono ?_); rintro e w3 ⟨rfl, rfl⟩)
  exact ⟨rfl, rfl, hF1'.out.al _⟩

end Go.Proofs.YthpkjkcfhipjhaaGreatDoor

namespace Go.Proofs.YthpkjkcfhipjhaaGreatDoor
set_option linter.unusedVariables false
set_option linter.unusedSimpArgs false
open Go.RowKit Go.Proofs.YthpkjkcfhipjhaaGreatDoorW.PrintWords Go.Proofs.YthpkjkcfhipjhaaGreatDoorW.PrintLast

set_option maxRecDepth 100000 in
set_option maxHeartbeats 2000000 in
theorem value_t (b : Nat) (l t rest : List UInt8) (w : World) (h : Rd w b (4 :: l)) (hl : l.length ≤ 140737488355326) (hd : decT [] l = .ok (t, rest)) :
    Calls Tryz.prog 83 #[.pointer (some ⟨b, 0, none⟩)] w (OutVr b (.ok (⟨4, 0, 0, bs t⟩, rest)) w) := by
  have hlt := h.lt
  have HU := hidF (fun W (hR : Rd W b (4 :: l)) => take_ok b (4 :: l) 1 1 rfl W hR (by simp) (by simp; omega))
  simp only [List.take_succ_cons, List.take_zero, List.drop_succ_cons, List.drop_zero] at HU
  have hix := idx0 4
  have hnb : ¬ w.heap.size = b := by omega
  obtain ⟨u, hu1, hu2, hu3⟩ := esc_decT _ _ _ (Nat.le_refl _) _ _ hd
  have HN : Hid (∀ W, Rd W b l → Calls Tryz.prog 107 #[.pointer (some ⟨b, 0, none⟩)] W fun e w' => e = .returned (.string (bs t)) ∧ Rd w' b rest ∧ Fr b W w') := hidF (fun W hR => (text_c' b l W hR (by omega)).mono (fun e w' ho => by rw [hd] at ho; exact ho))
  have HS := hidF (fun W => sound_c 4 0 0 (bs t) W (by constructor <;> decide))
  rw [sound_txt (bs t) (by rw [bs_size]; exact hu3)] at HS
  clear hu1 hu2 hu3 hd
  generalize bs t = T at *
  go_enter Tryz.func83, Tryz.ntmps83
  go_wp2_with fail
  (with_reducible refine (HU.out _ (h.below (by repeat (first | (with_reducible exact Below.refl _ _) | (with_reducible refine below_al ?_ _) | (with_reducible refine below_drewN ?_ _) | (with_reducible refine Below.drew ?_) | (with_reducible refine below_via (by assumption) ?_) | (with_reducible refine below_sc ?_ ?_ _; · (first | (simp; done) | (simp; omega) | omega)))))).mono ?_)
  rintro e w1 ⟨rfl, hR1, hF1⟩
  have HX := hidF (Bx.fr (Bx.new w 0 0 0 ⟨#[]⟩ 64) hF1 hnb)
  have hF1' := hidF (show Fr b w w1 from Fr.trans (w1 := w.alloc (.cells #[.int .i64 0, .int .i64 0, .int .u64 0, .string ⟨#[]⟩] 64)) (Fr.of (by repeat (first | (with_reducible exact Below.refl _ _) | (with_reducible refine below_al ?_ _) | (with_reducible refine below_drewN ?_ _) | (with_reducible refine Below.drew ?_) | (with_reducible refine below_via (by assumption) ?_) | (with_reducible refine below_sc ?_ ?_ _; · (first | (simp; done) | (simp; omega) | omega))))) hF1)
  have hs1 := hF1.size
  simp at hs1
  clear hF1
  have hnn : ¬ w1.heap.size = w.heap.size := by omega
  have hnn' : ¬ w.heap.size = w1.heap.size := by omega
  have hnb1 : ¬ w1.heap.size = b := by omega
  go_wp2_with (first | (go_at_call 107; (with_reducible refine (HN.out _ (hR1.below (by repeat (first | (with_reducible exact Below.refl _ _) | (with_reducible refine below_al ?_ _) | (with_reducible refine below_drewN ?_ _) | (with_reducible refine Below.drew ?_) | (with_reducible refine below_via (by assumption) ?_) | (with_reducible refine below_sc ?_ ?_ _; · (first | (simp; done) | (simp; omega) | omega)))))).mono ?_); rintro e w3 ⟨rfl, hR3, hF3⟩; have HX3 := hidF (Bx.fr (HX.out.al _) hF3 hnb); have HY3 := hidF (Bx.fr (Bx.new w1 4 0 0 ⟨#[]⟩ 64) hF3 hnb1); have hF3' := hidF (Fr.trans (hF1'.out.al _) hF3); have hs3 := hF3.size; simp at hs3; clear hF3; obtain ⟨d0, d1, d2, d3, e0, e1, e2, e3⟩ := HY3.out) | (go_at_call 67; (with_reducible refine (HS.out _).mono ?_); rintro e w2 ⟨rfl, hb2⟩; have hR2 := hidF (Rd.below (Rd.set hR3 hnb1 _ _) hb2); have hF2' := hidF (Fr.add (Fr.new hF3'.out (by omega) _ _) hb2); have hs2 := hb2.size; simp at hs2; obtain ⟨a0, a1, a2, a3, b0, b1, b2, b3⟩ := (Bx.other HX3.out hnn _ _).below hb2; clear d0 d1 d2 d3 e0 e1 e2 e3; obtain ⟨d0, d1, d2, d3, e0, e1, e2, e3⟩ := (Bx.setT HY3.out _).below hb2; clear hb2) | (go_at_call 82; (with_reducible refine (rmust_t _ _).mono ?_); rintro e w9 ⟨rfl, rfl⟩))
  refine bodyPost_ret (v := .agg #[.int .i64 (4), .int .i64 (0), .int .u64 (0), .string (T)]) (by simp [results, Tryz.results83, go_sem, *]) rfl ⟨rfl, ?_, ?_⟩
  · repeat (refine Rd.set ?_ (by omega) _ _)
    exact hR2.out
  · repeat (refine Fr.new ?_ (by omega) _ _)
    exact hF2'.out

set_option maxRecDepth 100000 in
set_option maxHeartbeats 2000000 in
theorem value_te (b : Nat) (l : List UInt8) (c : Int) (w : World) (h : Rd w b (4 :: l)) (hl : l.length ≤ 140737488355326) (hd : decT [] l = .error c) :
    Calls Tryz.prog 83 #[.pointer (some ⟨b, 0, none⟩)] w (OutVr b (.error c) w) := by
  have hlt := h.lt
  have HU := hidF (fun W (hR : Rd W b (4 :: l)) => take_ok b (4 :: l) 1 1 rfl W hR (by simp) (by simp; omega))
  simp only [List.take_succ_cons, List.take_zero, List.drop_succ_cons, List.drop_zero] at HU
  have hix := idx0 4
  have hnb : ¬ w.heap.size = b := by omega
  have HN : Hid (∀ W, Rd W b l → Calls Tryz.prog 107 #[.pointer (some ⟨b, 0, none⟩)] W fun e w' => e = .panicked (flr c) ∧ Fr b W w') := hidF (fun W hR => (text_c' b l W hR (by omega)).mono (fun e w' ho => by rw [hd] at ho; exact ho))
  clear hd
  go_enter Tryz.func83, Tryz.ntmps83
  go_wp2_with fail
  (with_reducible refine (HU.out _ (h.below (by repeat (first | (with_reducible exact Below.refl _ _) | (with_reducible refine below_al ?_ _) | (with_reducible refine below_drewN ?_ _) | (with_reducible refine Below.drew ?_) | (with_reducible refine below_via (by assumption) ?_) | (with_reducible refine below_sc ?_ ?_ _; · (first | (simp; done) | (simp; omega) | omega)))))).mono ?_)
  rintro e w1 ⟨rfl, hR1, hF1⟩
  have HX := hidF (Bx.fr (Bx.new w 0 0 0 ⟨#[]⟩ 64) hF1 hnb)
  have hF1' := hidF (show Fr b w w1 from Fr.trans (w1 := w.alloc (.cells #[.int .i64 0, .int .i64 0, .int .u64 0, .string ⟨#[]⟩] 64)) (Fr.of (by repeat (first | (with_reducible exact Below.refl _ _) | (with_reducible refine below_al ?_ _) | (with_reducible refine below_drewN ?_ _) | (with_reducible refine Below.drew ?_) | (with_reducible refine below_via (by assumption) ?_) | (with_reducible refine below_sc ?_ ?_ _; · (first | (simp; done) | (simp; omega) | omega))))) hF1)
  have hs1 := hF1.size
  simp at hs1
  clear hF1
  have hnn : ¬ w1.heap.size = w.heap.size := by omega
  have hnn' : ¬ w.heap.size = w1.heap.size := by omega
  have hnb1 : ¬ w1.heap.size = b := by omega
  go_wp2_with (go_at_call 107; (with_reducible refine (HN.out _ (hR1.below (by repeat (first | (with_reducible exact Below.refl _ _) | (with_reducible refine below_al ?_ _) | (with_reducible refine below_drewN ?_ _) | (with_reducible refine Below.drew ?_) | (with_reducible refine below_via (by assumption) ?_) | (with_reducible refine below_sc ?_ ?_ _; · (first | (simp; done) | (simp; omega) | omega)))))).mono ?_); rintro e w3 ⟨rfl, hF3⟩)
  exact ⟨rfl, rfl, Fr.trans (hF1'.out.al _) hF3⟩

set_option maxRecDepth 100000 in
set_option maxHeartbeats 2000000 in
theorem value_odd (b : Nat) (d : UInt8) (l : List UInt8) (w : World) (h : Rd w b (d :: l)) (hl : l.length ≤ 140737488355326) (hd : 4 < d.toNat) :
    Calls Tryz.prog 83 #[.pointer (some ⟨b, 0, none⟩)] w (OutVr b (.error 4) w) := by
  have hlt := h.lt
  have HU := hidF (fun W (hR : Rd W b (d :: l)) => take_ok b (d :: l) 1 1 rfl W hR (by simp) (by simp; omega))
  simp only [List.take_succ_cons, List.take_zero, List.drop_succ_cons, List.drop_zero] at HU
  have hix := idx0 d
  have hnb : ¬ w.heap.size = b := by omega
  have hd0 := d.toNat_lt
  have k0 : ((d.toNat : Int) == 0) = false := by rw [beq_eq_false_iff_ne]; omega
  have k1 : ((d.toNat : Int) == 1) = false := by rw [beq_eq_false_iff_ne]; omega
  have k2 : ((d.toNat : Int) == 2) = false := by rw [beq_eq_false_iff_ne]; omega
  have k3 : ((d.toNat : Int) == 3) = false := by rw [beq_eq_false_iff_ne]; omega
  have k4 : ((d.toNat : Int) == 4) = false := by rw [beq_eq_false_iff_ne]; omega
  go_enter Tryz.func83, Tryz.ntmps83
  go_wp2_with fail
  (with_reducible refine (HU.out _ (h.below (by repeat (first | (with_reducible exact Below.refl _ _) | (with_reducible refine below_al ?_ _) | (with_reducible refine below_drewN ?_ _) | (with_reducible refine Below.drew ?_) | (with_reducible refine below_via (by assumption) ?_) | (with_reducible refine below_sc ?_ ?_ _; · (first | (simp; done) | (simp; omega) | omega)))))).mono ?_)
  rintro e w1 ⟨rfl, hR1, hF1⟩
  have HX := hidF (Bx.fr (Bx.new w 0 0 0 ⟨#[]⟩ 64) hF1 hnb)
  have hF1' := hidF (show Fr b w w1 from Fr.trans (w1 := w.alloc (.cells #[.int .i64 0, .int .i64 0, .int .u64 0, .string ⟨#[]⟩] 64)) (Fr.of (by repeat (first | (with_reducible exact Below.refl _ _) | (with_reducible refine below_al ?_ _) | (with_reducible refine below_drewN ?_ _) | (with_reducible refine Below.drew ?_) | (with_reducible refine below_via (by assumption) ?_) | (with_reducible refine below_sc ?_ ?_ _; · (first | (simp; done) | (simp; omega) | omega))))) hF1)
  have hs1 := hF1.size
  simp at hs1
  clear hF1
  have hnn : ¬ w1.heap.size = w.heap.size := by omega
  have hnn' : ¬ w.heap.size = w1.heap.size := by omega
  have hnb1 : ¬ w1.heap.size = b := by omega
  go_wp2_with (go_at_call 82; (with_reducible refine (rmust_f _ _).mono ?_); rintro e w9 ⟨rfl, rfl⟩)
  exact ⟨rfl, rfl, hF1'.out.al _⟩

theorem value_c' (b : Nat) (l : List UInt8) (w : World) (h : Rd w b l) (hl : l.length ≤ 140737488355327) :
    Calls Tryz.prog 83 #[.pointer (some ⟨b, 0, none⟩)] w (OutVr b (decV l) w) := by
  match l, h, hl with
  | [], h, hl => rw [decV]; exact value_nil b w h
  | c :: l, h, hl =>
    have hl2 : l.length ≤ 140737488355326 := by simp at hl; omega
    rw [decV]
    by_cases h0 : c.toNat = 0
    · have hc : c = 0 := UInt8.toNat_inj.1 h0
      subst hc
      rw [if_pos h0]
      exact value_null b l w h hl2
    · rw [if_neg h0]
      by_cases h3 : c.toNat ≤ 3
      · rw [if_pos h3]
        have h123 : c = 1 ∨ c = 2 ∨ c = 3 := by
          have : c.toNat = 1 ∨ c.toNat = 2 ∨ c.toNat = 3 := by omega
          rcases this with e | e | e
          · exact .inl (UInt8.toNat_inj.1 e)
          · exact .inr (.inl (UInt8.toNat_inj.1 e))
          · exact .inr (.inr (UInt8.toNat_inj.1 e))
        by_cases h8 : l.length < 8
        · rw [if_pos h8]
          rcases h123 with rfl | rfl | rfl
          · exact value_w1s b l w h h8
          · exact value_w2s b l w h h8
          · exact value_w3s b l w h h8
        · rw [if_neg h8]
          rcases h123 with rfl | rfl | rfl
          · have e : ofWord ((1 : UInt8).toNat : Int) (numB (l.take 8)) = ⟨1, (numB (l.take 8) : Int) - 9223372036854775808, 0, ⟨#[]⟩⟩ := rfl
            rw [e]
            cases hs : sV ⟨1, (numB (l.take 8) : Int) - 9223372036854775808, 0, ⟨#[]⟩⟩
            · exact value_w1f b l w h hl2 (by omega) hs
            · exact value_w1t b l w h hl2 (by omega) hs
          · have e : ofWord ((2 : UInt8).toNat : Int) (numB (l.take 8)) = ⟨2, (numB (l.take 8) : Int) - 9223372036854775808, 0, ⟨#[]⟩⟩ := rfl
            rw [e]
            cases hs : sV ⟨2, (numB (l.take 8) : Int) - 9223372036854775808, 0, ⟨#[]⟩⟩
            · exact value_w2f b l w h hl2 (by omega) hs
            · exact value_w2t b l w h hl2 (by omega) hs
          · have e : ofWord ((3 : UInt8).toNat : Int) (numB (l.take 8)) = ⟨3, 0, backI (numB (l.take 8)), ⟨#[]⟩⟩ := rfl
            rw [e]
            cases hs : sV ⟨3, 0, backI (numB (l.take 8)), ⟨#[]⟩⟩
            · exact value_w3f b l w h hl2 (by omega) hs
            · exact value_w3t b l w h hl2 (by omega) hs
      · rw [if_neg h3]
        by_cases h4 : c.toNat = 4
        · have hc : c = 4 := UInt8.toNat_inj.1 h4
          subst hc
          rw [if_pos h4]
          cases hd : decT [] l with
          | ok r => obtain ⟨t, rest⟩ := r; exact value_t b l t rest w h hl2 hd
          | error e => exact value_te b l e w h hl2 hd
        · rw [if_neg h4]
          exact value_odd b c l w h hl2 (by omega)

end Go.Proofs.YthpkjkcfhipjhaaGreatDoor

namespace Go.Proofs.YthpkjkcfhipjhaaGreatDoor
set_option linter.unusedVariables false
set_option linter.unusedSimpArgs false
open Go.RowKit Go.Proofs.YthpkjkcfhipjhaaGreatDoorW.PrintWords Go.Proofs.YthpkjkcfhipjhaaGreatDoorW.PrintLast PRW

/-- Q, but at a panic for whatever the slots from N on hold. -/
def AnyPanic (N : Nat) (Q : Exit → Act → World → Prop) : Exit → Act → World → Prop
  | .panic c, a, w => ∀ a' : Act, a'.defers = a.defers → (∀ i, i < N → a'.tmps[i]? = a.tmps[i]?) → Q (.panic c) a' w
  | e, a, w => Q e a w
theorem AnyPanic.imp {N : Nat} {Q : Exit → Act → World → Prop} : ∀ (e : Exit) (a : Act) (w : World), AnyPanic N Q e a w → Q e a w := fun e a w h => by
  cases e <;> first | exact h | exact (show ∀ a' : Act, a'.defers = a.defers → (∀ i, i < N → a'.tmps[i]? = a.tmps[i]?) → Q _ a' w from h) a rfl (fun _ _ => rfl)
theorem wp_region_anyPanic (N : Nat) {P : Program} {id : Nat} {ops : Array Oper} {b : Bool} {Q : Exit → Act → World → Prop} {a : Act} {w : World} (h : (Code.region id ops b).wp P (AnyPanic N Q) a w) : (Code.region id ops b).wp P Q a w :=
  Code.wp_mono AnyPanic.imp h
theorem AnyPanic.normal {N : Nat} {Q : Exit → Act → World → Prop} {a : Act} {w : World} (h : Q .normal a w) : AnyPanic N Q .normal a w := h
theorem AnyPanic.put {N : Nat} {Q : Exit → Act → World → Prop} (k : Nat) (hk : N ≤ k) (v : Value) : ∀ c a w, AnyPanic N Q (.panic c) (a.put (some k) v) w → AnyPanic N Q (.panic c) a w := by
  intro c a w h a' hd hs
  refine h a' (hd.trans (by simp [Act.put])) fun i hi => (hs i hi).trans ?_
  simp only [Act.put]
  rw [Array.getElem?_setIfInBounds]
  rw [if_neg (by omega)]

section
variable {P : Program} {ops : Array Oper} {Q : Exit → Act → World → Prop}
/-- A call in a region that draws its order, the callee gives up. -/
theorem goesX_ {oi : Oper} {N : Option Tmp} {a : Act} {w : World} {K : Act → World → Prop} {f : FuncId} {fn : Func} {xs : Array Operand} {ts : Array TypeId} (hf : P.funcs[f]? = some fn) (hname : (fn.name == "runtime.NumGoroutine") = false) (hb : fn.body.isSome = true) (args : Array Value)
    (hw : Region.wanted oi (yielded ops a.tmps) = true) (hop : oi.op = .call { callee := .value (.func f), args := xs, argTypes := ts }) (hargs : xs.map a.eval = args)
    (h : Calls P f args w fun e w' => ∃ ch, e = .panicked ch ∧ Q (.panic ch) a w') : if Region.wanted oi (yielded ops a.tmps) = true then Oper.wp P oi a w K Q else K (a.put N undef) w := by
  rw [if_pos hw]
  have he := enters_ hf hname hb args w
  have hrun : (execOp a.eval oi).run P w = .ok (.enter f args) w := by
    unfold execOp
    simp [hop, resolve, Deferred.ofValue, invoke, Act.eval, hargs, he]
  unfold Oper.wp
  rw [hrun, Oper.upon_enter]
  refine h.mono fun e w'' hh => ?_
  obtain ⟨ch, rfl, hk⟩ := hh
  exact hk
end

theorem rframe_same (c : Frame) (m : FrameMode) (h : c.mode = m) : c = { c with mode := m } := by cases c; cases h; rfl
theorem rta_nil (w : World) : (Instr.typeAssert .nilIface 20 106 true).run Tryz.prog w = .ok (.tuple #[.agg #[.int .i64 0], .bool false]) w := by kernel_rfl
theorem rta_flt (c : Int) (w : World) : (Instr.typeAssert (.iface 106 (.agg #[.int .i64 c])) 20 106 true).run Tryz.prog w = .ok (.tuple #[.agg #[.int .i64 c], .bool true]) w := by kernel_rfl

set_option maxRecDepth 100000 in
/-- behind a return: nothing is recovered -/
theorem dec1_ret (b0 b1 : Nat) (w : World) :
    CallsD Tryz.prog 81 #[.pointer (some ⟨b0, 0, none⟩), .pointer (some ⟨b1, 0, none⟩)] .returning w fun e u' w' => u' = .returning ∧ e = .returned (.tuple #[]) ∧ Below w.heap.size w w' := by
  refine callsD_of_wpS Tryz.func81 rfl fun c₀ cs hu => ?_
  simp only [Tryz.ntmps81, List.size_toArray, List.length_cons, List.length_nil, Nat.reduceAdd, Nat.reduceSub, Array.replicate_succ, Array.replicate_zero, List.push_toArray, List.append_toArray, List.nil_append, List.cons_append]
  apply wpS_seq
  apply wpS_region
  simp [wpOpsS, go_sem, recoverD, hu, Exit.thenS, rta_nil]
  apply wpS_of_wp
  go_wp2_with fail
  exact ⟨rfl, .returning, congrArg (· :: cs) (rframe_same c₀ _ hu), _, results_none rfl _ _ _, rfl, rfl, below_box _ _⟩

/-- what it leaves: no row, the error -/
def GaveD (B b0 b1 : Nat) (c : Int) (w : World) (e : Ending) (u' : FrameMode) (w' : World) : Prop :=
  u' = .panicking [{ v := .iface 106 (.agg #[.int .i64 c]), recovered := true }] ∧ e = .returned (.tuple #[]) ∧ Below B w w' ∧
  w'.cell? ⟨b0, 0, none⟩ = some (.slice none 0 0) ∧ w'.cell? ⟨b1, 0, none⟩ = some (.int .i64 c)

set_option maxHeartbeats 2000000 in
set_option maxRecDepth 100000 in
theorem dec1_pan (B b0 b1 : Nat) (c : Int) (w : World) (v0 v1 : Value) (hB : B ≤ b0) (h01 : b0 < b1) (hb1 : b1 < w.heap.size)
    (c0 : w.cell? ⟨b0, 0, none⟩ = some v0) (c1 : w.cell? ⟨b1, 0, none⟩ = some v1)
    (f0 : w.frozen? ⟨b0, 0, none⟩ = false) (f1 : w.frozen? ⟨b1, 0, none⟩ = false) :
    CallsD Tryz.prog 81 #[.pointer (some ⟨b0, 0, none⟩), .pointer (some ⟨b1, 0, none⟩)] (.panicking (flr c)) w (GaveD B b0 b1 c w) := by
  refine callsD_of_wpS Tryz.func81 rfl fun c₀ cs hu => ?_
  have hb0 : b0 < w.heap.size := by omega
  have n01 : ¬ b0 = b1 := by omega
  have n10 : ¬ b1 = b0 := by omega
  have hn0 : ¬ w.heap.size = b0 := by omega
  have hn1 : ¬ w.heap.size = b1 := by omega
  simp only [Tryz.ntmps81, List.size_toArray, List.length_cons, List.length_nil, Nat.reduceAdd, Nat.reduceSub, Array.replicate_succ, Array.replicate_zero, List.push_toArray, List.append_toArray, List.nil_append, List.cons_append]
  apply wpS_seq
  apply wpS_region
  simp [wpOpsS, go_sem, recoverD, hu, Exit.thenS, flr, rta_flt]
  apply wpS_of_wp
  go_wp2_with fail
  go_region
  clear hu
  refine ⟨rfl, .panicking [{ v := .iface 106 (.agg #[.int .i64 c]), recovered := true }], rfl, _, results_none rfl _ _ _, rfl, rfl, ?_, ?_, ?_⟩
  rotate_left
  · simp [go_sem, *]
  · simp [go_sem, *]
  repeat (first | (with_reducible exact Below.refl _ _) | (with_reducible refine below_sc ?_ ?_ _; · (first | (simp; done) | (simp; omega) | omega)) | (with_reducible refine Below.drew ?_) | (with_reducible refine below_al2 ?_ ?_ _; · (first | omega | (simp; done) | (simp; omega))))

/-- the program's value -/
def ofV (x : V) : S64 := ⟨x.k, x.n, x.f, x.t⟩
theorem toV_ofV (x : V) : toV (ofV x) = x := rfl
theorem ofV_toV (x : S64) : ofV (toV x) = x := rfl

/-- what Decode answers -/
def OutD2 (r : Except Int (List V)) (w : World) (e : Ending) (w' : World) : Prop :=
  match r with
  | .ok l => ∃ v, e = .returned (.tuple #[v, .int .i64 0]) ∧ Kd.R k64 64 w' w.heap.size (fun _ => True) v (l.map ofV) ∧ Below w.heap.size w w'
  | .error c => e = .returned (.tuple #[.slice none 0 0, .int .i64 c]) ∧ Below w.heap.size w w'
theorem outD_ok {R : Except Int (List V)} {l : List V} {v : Value} {w w' : World} {e : Ending} (hR : R = .ok l) (he : e = .returned (.tuple #[v, .int .i64 0])) (hr : Kd.R k64 64 w' w.heap.size (fun _ => True) v (l.map ofV)) (hb : Below w.heap.size w w') : OutD2 R w e w' := by subst hR; exact ⟨v, he, hr, hb⟩
theorem outD_err {R : Except Int (List V)} {c : Int} {w w' : World} {e : Ending} (hR : R = .error c) (he : e = .returned (.tuple #[.slice none 0 0, .int .i64 c])) (hb : Below w.heap.size w w') : OutD2 R w e w' := by subst hR; exact ⟨he, hb⟩

/-- the state of the loop: block B the row, B + 1 the error, B + 2 the reader -/
structure Lp (B : Nat) (w wr : World) (l : List UInt8) (acc : List V) (v : Value) : Prop where
  rd : Rd wr (B + 1 + 1) l
  below : Below B w wr
  c0 : wr.cell? ⟨B, 0, none⟩ = some v
  c1 : wr.cell? ⟨B + 1, 0, none⟩ = some (.int .i64 0)
  f0 : wr.frozen? ⟨B, 0, none⟩ = false
  f1 : wr.frozen? ⟨B + 1, 0, none⟩ = false
  row : Kd.R k64 64 wr (B + 3) (fun k => B + 3 ≤ k) v (acc.map ofV)
theorem Lp.lt {B : Nat} {w wr : World} {l : List UInt8} {acc : List V} {v : Value} (h : Lp B w wr l acc v) : B + 1 + 1 < wr.heap.size := h.rd.lt
theorem Lp.fr {B : Nat} {w wr w1 : World} {l l' : List UInt8} {acc : List V} {v : Value} (h : Lp B w wr l acc v) (hF : Fr (B + 1 + 1) wr w1) (hS : Rd w1 (B + 1 + 1) l') : Lp B w w1 l' acc v := by
  have hl := h.lt
  refine ⟨hS, hF.below h.below (by omega) (by omega), ?_, ?_, ?_, ?_, ?_⟩
  · rw [hF.cell _ _ (by omega) (by omega)]; exact h.c0
  · rw [hF.cell _ _ (by omega) (by omega)]; exact h.c1
  · rw [hF.frozen _ _ (by omega) (by omega)]; exact h.f0
  · rw [hF.frozen _ _ (by omega) (by omega)]; exact h.f1
  · exact Kd.R_step h.row (fun k hk hlt => hF.block k hlt (by omega))
theorem Lp.bl {B : Nat} {w wr w1 : World} {l : List UInt8} {acc : List V} {v : Value} (h : Lp B w wr l acc v) (hb : Below wr.heap.size wr w1) : Lp B w w1 l acc v := h.fr (.of hb) (h.rd.below hb)
theorem Lp.len {B : Nat} {w wr : World} {l : List UInt8} {acc : List V} {v : Value} (h : Lp B w wr l acc v) : ∃ A c, v = .slice A acc.length c := by
  obtain ⟨A, c, hv, hl, hr⟩ := Kd.R_reads h.row
  rw [List.length_map] at hv
  exact ⟨A, c, hv⟩
theorem Lp.next {B : Nat} {w wd w5 : World} {l : List UInt8} {acc acc' : List V} {v v5 : Value} (h : Lp B w wd l acc v) (hb : Below (B + 3) wd w5) (ho : Kd.R k64 64 w5 (B + 3) (fun k => B + 3 ≤ k) v5 (acc'.map ofV)) :
    Lp B w (w5.setCell ⟨B, 0, none⟩ v5) l acc' v5 := by
  obtain ⟨⟨s0, sf⟩, hbel, c0, c1, f0, f1, hrow⟩ := h
  have e0 := (hb.cell (p := ⟨B, 0, none⟩) (by simp)).trans c0
  have e1 := (hb.cell (p := ⟨B + 1, 0, none⟩) (by simp)).trans c1
  have e2 := (hb.cell (p := ⟨B + 1 + 1, 0, none⟩) (by simp)).trans s0
  have g0 := (hb.frozen (p := ⟨B, 0, none⟩) (by simp)).trans f0
  have g1 := (hb.frozen (p := ⟨B + 1, 0, none⟩) (by simp)).trans f1
  have g2 := (hb.frozen (p := ⟨B + 1 + 1, 0, none⟩) (by simp)).trans sf
  refine ⟨⟨by simp [go_sem, *], by simp [go_sem, *]⟩, (hbel.trans (hb.mono (by omega))).setCell (by simp) _, by simp [go_sem, *], by simp [go_sem, *], by simp [go_sem, *], by simp [go_sem, *], ?_⟩
  exact Kd.R_far ho (p := ⟨B, 0, none⟩) (fun k hk => by simp; omega) v5

theorem decV_lt {l l' : List UInt8} {x : V} (h : decV l = .ok (x, l')) : l'.length < l.length := by
  have := (enc_decV h).1
  have h2 := congrArg List.length this
  rw [List.length_append] at h2
  have : 0 < (encV x).length := List.length_pos_iff.2 (encV_ne x)
  omega
theorem decR_fuel : ∀ (k k' : Nat) (acc : List V) (l : List UInt8), l.length < k → l.length < k' → decR k acc l = decR k' acc l
  | 0, _, _, _, h, _ => absurd h (by omega)
  | _, 0, _, _, _, h => absurd h (by omega)
  | k + 1, k' + 1, acc, l, h, h' => by
    rw [decR, decR]
    by_cases h0 : l = []
    · rw [if_pos h0, if_pos h0]
    · rw [if_neg h0, if_neg h0]
      by_cases h1 : acc.length < 1024
      · rw [if_pos h1, if_pos h1]
        cases hd : decV l with
        | error e => rfl
        | ok r =>
          obtain ⟨x, l'⟩ := r
          have := decV_lt hd
          exact decR_fuel k k' _ _ (by omega) (by omega)
      · rw [if_neg h1, if_neg h1]
/-- the row of these bytes -/
def decB (l : List UInt8) : Except Int (List V) := decR (l.length + 1) [] l
theorem decR_end (acc : List V) (k : Nat) : decR (k + 1) acc [] = .ok acc := by rw [decR]; simp
theorem decR_many (acc : List V) (l : List UInt8) (h : l ≠ []) (k : Nat) (ha : ¬ acc.length < 1024) : decR (k + 1) acc l = .error 1 := by rw [decR, if_neg h, if_neg ha]
theorem decR_bad (acc : List V) (l : List UInt8) (h : l ≠ []) (k : Nat) (ha : acc.length < 1024) (e : Int) (hd : decV l = .error e) : decR (k + 1) acc l = .error e := by rw [decR, if_neg h, if_pos ha, hd]
theorem decR_step (acc : List V) (l l' : List UInt8) (h : l ≠ []) (ha : acc.length < 1024) (x : V) (hd : decV l = .ok (x, l')) : decR (l.length + 1) acc l = decR (l'.length + 1) (acc ++ [x]) l' := by
  rw [decR, if_neg h, if_pos ha, hd]
  exact decR_fuel _ _ _ _ (decV_lt hd) (by omega)

theorem infVal : (Tryz.prog.info? 64).map (fun i => (i.zero, i.size, i.bytes)) = some (some (.agg #[(.int .i64 0), (.int .i64 0), (.int .u64 0), (.string ⟨#[]⟩)]), 4, 40) := by kernel_rfl

end Go.Proofs.YthpkjkcfhipjhaaGreatDoor

namespace Go.Proofs.YthpkjkcfhipjhaaGreatDoor
set_option linter.unusedVariables false
set_option linter.unusedSimpArgs false
open Go.RowKit Go.Proofs.YthpkjkcfhipjhaaGreatDoorW.PrintWords Go.Proofs.YthpkjkcfhipjhaaGreatDoorW.PrintLast PRW

theorem rowD {B : Nat} {w3 w9 : World} {v v0 v1 : Value} {l : List S64} (h : Kd.R k64 64 w3 (B + 3) (fun k => B + 3 ≤ k) v l) (hb : Below ((w3.setCell ⟨B, 0, none⟩ v0).setCell ⟨B + 1, 0, none⟩ v1).heap.size ((w3.setCell ⟨B, 0, none⟩ v0).setCell ⟨B + 1, 0, none⟩ v1) w9) : Kd.R k64 64 w9 B (fun _ => True) v l := by
  have h1 := Kd.R_far h (p := ⟨B, 0, none⟩) (fun k hk => by simp; omega) v0
  have h2 := Kd.R_far h1 (p := ⟨B + 1, 0, none⟩) (fun k hk => by simp; omega) v1
  exact Kd.R_mono (Kd.R_lower (Kd.R_below h2 hb) (by omega)) (fun _ _ => trivial)

set_option maxRecDepth 100000 in
set_option maxHeartbeats 4000000 in
theorem decode_c (s : List UInt8) (w : World) (hs : s.length ≤ 140737488355327) :
    Calls Tryz.prog 56 #[.string (bs s)] w (OutD2 (decB s) w) := by
  have hmf : ∀ (fn : Fn) (first cap : Array Value) (w : World), (Instr.makeFunc fn first cap).run Tryz.prog w = .ok (.func fn first cap) w := fun _ _ _ _ => rfl
  obtain ⟨R, hR⟩ : ∃ R, decB s = R := ⟨_, rfl⟩
  rw [hR]
  go_enter_defers Tryz.func56, Tryz.ntmps56
  go_wp2_with fail
  go_loopw [] (fun wr => ∃ (l : List UInt8) (acc : List V) (v : Value), l.length ≤ 140737488355327 ∧ acc.length ≤ 1024 ∧ Lp w.heap.size w wr l acc v ∧ R = decR (l.length + 1) acc l) (fun wr => restN wr (w.heap.size + 1 + 1))
  case atStart =>
    refine ⟨s, [], .slice none 0 0, hs, by simp, ⟨⟨by simp [go_sem], by simp [go_sem]⟩, (by repeat (first | (with_reducible exact Below.refl _ _) | (with_reducible refine below_al ?_ _) | (with_reducible refine below_drewN ?_ _) | (with_reducible refine Below.drew ?_) | (with_reducible refine below_via (by assumption) ?_) | (with_reducible refine below_sc ?_ ?_ _; · (first | (simp; done) | (simp; omega) | omega)))), by simp [go_sem], by simp [go_sem], by simp [go_sem], by simp [go_sem], Kd.R_nil _ _ _ _ _⟩, hR.symm⟩
  case round =>
    obtain ⟨l, acc, v, hl, hn, HL, he⟩ := hrel
    have HH := hidF HL
    have HE := hidF he
    clear HL he hs
    obtain ⟨A, c, rfl⟩ := HH.out.len
    have hlt := HH.out.lt
    have c0 := HH.out.c0
    have c1 := HH.out.c1
    have f0 := HH.out.f0
    have f1 := HH.out.f1
    have s0 := HH.out.rd.c0
    have sf := HH.out.rd.f0
    by_cases h0 : l = []
    · subst h0
      have hem : (bs []).toList.isEmpty = true := by rw [ByteArray.toList_eq]; rfl
      go_wp2_with fail
      refine leaves_cons (f := 81) (args := #[.pointer (some ⟨w.heap.size, 0, none⟩), .pointer (some ⟨w.heap.size + 1, 0, none⟩)]) (by simp) (by simp [go_sem]) ?_
      refine (dec1_ret _ _ _).mono ?_
      rintro e u' w9 ⟨rfl, rfl, hb9⟩
      obtain ⟨hc9, hf9⟩ := bcell hb9
      have m0 : w9.cell? ⟨w.heap.size, 0, none⟩ = some (.slice A acc.length c) := by rw [hc9 _ _ (by simp; omega)]; simp [go_sem, c0, c1]
      have m1 : w9.cell? ⟨w.heap.size + 1, 0, none⟩ = some (.int .i64 0) := by rw [hc9 _ _ (by simp; omega)]; simp [go_sem, c0, c1]
      exact ⟨.tuple #[.slice A acc.length c, .int .i64 0], by simp [results, Tryz.results56, go_sem, m0, m1], outD_ok (HE.out.trans (decR_end acc 0)) rfl (rowD HH.out.row hb9) ((((HH.out.below).setCell (by simp) _).setCell (by simp) _).trans (hb9.mono (by simp; omega)))⟩
    · have hem : (bs l).toList.isEmpty = false := by
        rw [ByteArray.toList_eq]
        show l.isEmpty = false
        cases l with
        | nil => exact absurd rfl h0
        | cons a t => rfl
      by_cases h1 : acc.length < 1024
      · have hd1 : decide ((acc.length : Int) < 1024) = true := decide_eq_true (by omega)
        have hd2 : decide (acc.length < 1024) = true := decide_eq_true h1
        have cV : ∀ W, Rd W (w.heap.size + 1 + 1) l → Calls Tryz.prog 83 #[.pointer (some ⟨w.heap.size + 1 + 1, 0, none⟩)] W (OutVr (w.heap.size + 1 + 1) (decV l) W) := fun W hW => value_c' _ l W hW hl
        rcases hr : decV l with e | ⟨x, l'⟩
        · rw [hr] at cV
          have HR := hidF (decR_bad acc l h0 l.length h1 e hr)
          go_wp2_with (go_at_call 82; (with_reducible refine (rmust_t _ _).mono ?_); rintro e w3 ⟨rfl, rfl⟩)
          have hWd : Rd wr.drew (w.heap.size + 1 + 1) l := ⟨s0, sf⟩
          have HLd := hidF (HH.out.bl (Below.refl _ _).drew)
          refine wp_region_anyPanic 18 ?_
          refine start_ (n := 6) (S := fun w' => w'.cell? ⟨w.heap.size, 0, none⟩ = some (.slice A acc.length c)) (ds := [5]) #[false, false, false, false, false, false] (by kernel_rfl) rfl rfl c0 (fun hHeld => ?_)
          generalize wr.drew = wd at *
          refine pure_ (i := 1) (N := some 19) (v := ?_) (a' := ?_) #[false, true, false, false, false, false] rfl rfl (by kernel_rfl) (AnyPanic.put 19 (by decide) _) (Or.inl ⟨by rfl, ?_⟩) ?_ ?_
          rotate_left
          · intro w'
            go_simp
            with_reducible rfl
          rotate_left
          · simp only [Act.put, List.setIfInBounds_toArray, List.set_cons_zero, List.set_cons_succ, i64_w, i32_w]
            rfl
          refine take_ (i := 0) (N := some 18) (v := ?_) (a' := ?_) #[true, true, false, false, false, false] rfl rfl (by kernel_rfl) (AnyPanic.put 18 (by decide) _) (Or.inl ⟨by rfl, ?_⟩) hHeld ?_ ?_
          rotate_left
          · rintro w' s0
            go_simp
            with_reducible rfl
          rotate_left
          · simp only [Act.put, List.setIfInBounds_toArray, List.set_cons_zero, List.set_cons_succ, i64_w, i32_w]
            rfl
          refine one_ (i := 2) (N := some 20) #[true, true, true, false, false, false] rfl rfl (by kernel_rfl) (by decide) (fun K hK => ?_)
          refine goesX_ Tryz.func83 (by kernel_rfl) rfl #[.pointer (some ⟨w.heap.size + 1 + 1, 0, none⟩)] (by rfl) rfl (by (try simp only [List.map_toArray, List.map_cons, List.map_nil]); first | done | rfl) ?_
          refine (cV _ hWd).mono ?_
          rintro e' w4 ⟨rfl, hF4⟩
          refine ⟨_, rfl, ?_⟩
          intro a' ha' hs'
          have t2 := hs' 2 (by decide)
          have t3 := hs' 3 (by decide)
          clear hs'
          obtain ⟨tm, df⟩ := a'
          obtain rfl : df = _ := ha'
          simp only [List.getElem?_toArray, List.getElem?_cons_succ, List.getElem?_cons_zero] at t2 t3
          show bodyPostD Tryz.prog Tryz.f56 (OutD2 R w) (Exit.panic (flr e)) _ w4
          have hs4 := hF4.size
          have hltd := HLd.out.lt
          have e0 := (hF4.cell w.heap.size 0 (by omega) (by omega)).trans HLd.out.c0
          have e1 := (hF4.cell (w.heap.size + 1) 0 (by omega) (by omega)).trans HLd.out.c1
          have g0 := (hF4.frozen w.heap.size 0 (by omega) (by omega)).trans HLd.out.f0
          have g1 := (hF4.frozen (w.heap.size + 1) 0 (by omega) (by omega)).trans HLd.out.f1
          refine leaves_cons (f := 81) (args := #[.pointer (some ⟨w.heap.size, 0, none⟩), .pointer (some ⟨w.heap.size + 1, 0, none⟩)]) (by simp [flr]) (by simp [go_sem]) ?_
          refine (dec1_pan w.heap.size w.heap.size (w.heap.size + 1) e _ _ _ (Nat.le_refl _) (by omega) (by omega) e0 e1 g0 g1).mono ?_
          rintro e9 u' w9 ⟨rfl, rfl, hb9, k0, k1⟩
          exact ⟨.tuple #[.slice none 0 0, .int .i64 e], by simp [results, Tryz.results56, go_sem, k0, k1, t2, t3], outD_err (HE.out.trans HR.out) rfl ((hF4.below HLd.out.below (by omega) (by omega)).trans hb9)⟩
        · rw [hr] at cV
          have hWd : Rd wr.drew (w.heap.size + 1 + 1) l := ⟨s0, sf⟩
          have HLd := hidF (HH.out.bl (Below.refl _ _).drew)
          go_wp2_with (go_at_call 82; (with_reducible refine (rmust_t _ _).mono ?_); rintro e w3 ⟨rfl, rfl⟩)
          refine wp_region_noPanic ?_
          refine start_ (n := 6) (S := fun w' => w'.cell? ⟨w.heap.size, 0, none⟩ = some (.slice A acc.length c)) (ds := [5]) #[false, false, false, false, false, false] (by kernel_rfl) rfl rfl c0 (fun hHeld => ?_)
          generalize wr.drew = wd at *
          refine pure_ (i := 1) (N := some 19) (v := ?_) (a' := ?_) #[false, true, false, false, false, false] rfl rfl (by kernel_rfl) (fun _ _ _ h => h) (Or.inl ⟨by rfl, ?_⟩) ?_ ?_
          rotate_left
          · intro w'
            go_simp
            with_reducible rfl
          rotate_left
          · simp only [Act.put, List.setIfInBounds_toArray, List.set_cons_zero, List.set_cons_succ, i64_w, i32_w]
            rfl
          refine take_ (i := 0) (N := some 18) (v := ?_) (a' := ?_) #[true, true, false, false, false, false] rfl rfl (by kernel_rfl) (fun _ _ _ h => h) (Or.inl ⟨by rfl, ?_⟩) hHeld ?_ ?_
          rotate_left
          · rintro w' s0
            go_simp
            with_reducible rfl
          rotate_left
          · simp only [Act.put, List.setIfInBounds_toArray, List.set_cons_zero, List.set_cons_succ, i64_w, i32_w]
            rfl
          refine one_ (i := 2) (N := some 20) #[true, true, true, false, false, false] rfl rfl (by kernel_rfl) (by decide) (fun K hK => ?_)
          refine goes_ Tryz.func83 (by kernel_rfl) rfl #[.pointer (some ⟨w.heap.size + 1 + 1, 0, none⟩)] (by rfl) rfl rfl (by (try simp only [List.map_toArray, List.map_cons, List.map_nil]); first | done | rfl) ?_
          refine (cV _ hWd).mono ?_
          rintro e' w4 ⟨rfl, hR4, hF4⟩
          refine ⟨_, rfl, ?_⟩
          have HL4 := hidF (HLd.out.fr hF4 hR4)
          have g0 := HL4.out.c0
          refine hK.out _ _ g0 (fun hHeld => ?_)
          clear hK K
          refine norm_ (a' := ?_) ?_ ?_
          rotate_left
          · show Act.put _ (some 20) _ = _
            simp only [Act.put, List.setIfInBounds_toArray, List.set_cons_zero, List.set_cons_succ, i64_w, i32_w]
            rfl
          have hlt4 := HL4.out.lt
          refine one_ (i := 3) (N := some 21) #[true, true, true, true, false, false] rfl rfl (by kernel_rfl) (by decide) (fun K hK => ?_)
          refine value_ (w1 := ?_) (v := ?_) (by rfl) rfl ?_ ?_
          rotate_left 2
          · go_simp
            constructor
            · rfl
            · rfl
          refine hK.out _ _ (((below_box _ _).cell (p := ⟨w.heap.size, 0, none⟩) (show w.heap.size < w4.heap.size by omega)).trans hHeld) (fun hHeld => ?_)
          clear hK K
          refine norm_ (a' := ?_) ?_ ?_
          rotate_left
          · show Act.put _ (some 21) _ = _
            simp only [Act.put, List.setIfInBounds_toArray, List.set_cons_zero, List.set_cons_succ, i64_w, i32_w]
            rfl
          refine one_ (i := 4) (N := some 22) #[true, true, true, true, true, false] rfl rfl (by kernel_rfl) (by decide) (fun K hK => ?_)
          refine Kd.R_append_step k64 (w0 := w4) (w.heap.size + 3) (by rfl) (.tmp 18) (.tmp 21) 24 64 (.agg #[(.int .i64 0), (.int .i64 0), (.int .u64 0), (.string ⟨#[]⟩)]) 40 (by rfl) Tryz.underlying24 infVal rfl (by decide) (by omega) (.slice A acc.length c) (acc.map ofV) (ofV x) [.int .i64 x.k, .int .i64 x.n, .int .u64 x.f, .string x.t] (fun k => w.heap.size + 3 ≤ k) (fun _ => False) (by rfl) (by rfl) ?aP (fun _ hk => hk.elim) ?aF ?aO ?aB ?aS ?aL ?_
          case aP => exact k64_mkM _ _ _ (ofV x)
          case aB => exact Below.refl _ _
          case aF => intro k hk; omega
          case aO => exact HL4.out.row
          case aS => omega
          case aL => rw [List.length_map]; omega
          intro v5 w5 ho hb hg hat
          have ho2 : Kd.R k64 64 w5 (w.heap.size + 3) (fun k => w.heap.size + 3 ≤ k) v5 ((acc ++ [x]).map ofV) := by rw [List.map_append]; exact ho
          clear hg hat
          have LN := HL4.out.next hb ho2
          obtain ⟨A5, c5, rfl⟩ := LN.len
          have t50 := (hb.cell (p := ⟨w.heap.size, 0, none⟩) (by simp)).trans g0
          have t5f := (hb.frozen (p := ⟨w.heap.size, 0, none⟩) (by simp)).trans HL4.out.f0
          clear ho hb ho2
          have HLN := hidF LN
          clear LN
          refine hK.out _ _ t50 (fun hHeld => ?_)
          clear hK K
          refine norm_ (a' := ?_) ?_ ?_
          rotate_left
          · show Act.put _ (some 22) _ = _
            simp only [Act.put, List.setIfInBounds_toArray, List.set_cons_zero, List.set_cons_succ, i64_w, i32_w]
            rfl
          refine last_ (i := 5) (N := none) #[true, true, true, true, true, true] rfl rfl (by kernel_rfl) (by decide) (fun K hK => ?_)
          refine skip_ (w1 := ?_) (by rfl) rfl ?_ ?_
          rotate_left
          · go_simp
            rfl
          refine hK.out _ _ ?_
          clear hK K
          refine done_ (by kernel_rfl) ?_
          refine NoPanic.normal ?_
          go_wp2_with fail
          have el : (acc ++ [x]).length = acc.length + 1 := by simp
          have hrn := HLN.out.rd.n
          rw [el] at hrn
          have HLN2 := HLN.out
          rw [el] at HLN2
          have hrm := HH.out.rd.n
          have hlt2 := decV_lt hr
          go_roundw
          case rel => exact ⟨l', acc ++ [x], _, by omega, by simp; omega, HLN2, HE.out.trans (decR_step acc l l' h0 h1 x hr)⟩
          case measure => rw [hrn, hrm]; exact hlt2
      · have hd1 : decide ((acc.length : Int) < 1024) = false := decide_eq_false (by omega)
        have hd2 : decide (acc.length < 1024) = false := decide_eq_false h1
        go_wp2_with (go_at_call 82; (with_reducible refine (rmust_f _ _).mono ?_); rintro e w3 ⟨rfl, rfl⟩)
        refine leaves_cons (f := 81) (args := #[.pointer (some ⟨w.heap.size, 0, none⟩), .pointer (some ⟨w.heap.size + 1, 0, none⟩)]) (by simp [flr]) (by simp [go_sem]) ?_
        refine (dec1_pan w.heap.size w.heap.size (w.heap.size + 1) 1 _ _ _ (Nat.le_refl _) (by omega) (by omega) c0 c1 f0 f1).mono ?_
        rintro e u' w9 ⟨rfl, rfl, hb9, e0, e1⟩
        exact ⟨.tuple #[.slice none 0 0, .int .i64 1], by simp [results, Tryz.results56, go_sem, e0, e1], outD_err (HE.out.trans (decR_many acc l h0 l.length h1)) rfl (HH.out.below.trans hb9)⟩

end Go.Proofs.YthpkjkcfhipjhaaGreatDoor
