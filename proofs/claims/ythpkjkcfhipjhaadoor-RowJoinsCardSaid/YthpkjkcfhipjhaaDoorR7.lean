/- The reader's value. -/
import Derived.Test.YthpkjkcfhipjhaaDoorR6
namespace Go.Proofs.YthpkjkcfhipjhaaDoor
set_option linter.unusedVariables false
set_option linter.unusedSimpArgs false
open Go.RowKit Go.Proofs.YthpkjkcfhipjhaaDoorW.PrintWords Go.Proofs.YthpkjkcfhipjhaaDoorW.PrintLast

/-- what a reading of a value comes to -/
def OutVr (b : Nat) (r : Except Int (V × List UInt8)) (w : World) (e : Ending) (w' : World) : Prop :=
  match r with
  | .ok (x, rest) => e = .returned (.agg #[.int .i64 x.k, .int .i64 x.n, .int .u64 x.f, .string x.t]) ∧ Rd w' b rest ∧ Fr b w w'
  | .error c => e = .panicked (flr c) ∧ Fr b w w'

/-- a value in block g -/
structure Bx (w : World) (g : Nat) (k n f : Int) (t : ByteArray) : Prop where
  c0 : w.cell? ⟨g, 0, none⟩ = some (.int .i64 k)
  c1 : w.cell? ⟨g, 1, none⟩ = some (.int .i64 n)
  c2 : w.cell? ⟨g, 2, none⟩ = some (.int .u64 f)
  c3 : w.cell? ⟨g, 3, none⟩ = some (.string t)
  f0 : w.frozen? ⟨g, 0, none⟩ = false
  f1 : w.frozen? ⟨g, 1, none⟩ = false
  f2 : w.frozen? ⟨g, 2, none⟩ = false
  f3 : w.frozen? ⟨g, 3, none⟩ = false
theorem Bx.lt {w : World} {g : Nat} {k n f : Int} {t : ByteArray} (h : Bx w g k n f t) : g < w.heap.size := World.block_lt_of_cell? w _ h.c0
theorem Bx.fr {w w' : World} {b g : Nat} {k n f : Int} {t : ByteArray} (h : Bx w g k n f t) (hf : Fr b w w') (hn : g ≠ b) : Bx w' g k n f t := by
  have l := h.lt
  obtain ⟨a0, a1, a2, a3, b0, b1, b2, b3⟩ := h
  exact ⟨by rw [hf.cell _ _ l hn, a0], by rw [hf.cell _ _ l hn, a1], by rw [hf.cell _ _ l hn, a2], by rw [hf.cell _ _ l hn, a3], by rw [hf.frozen _ _ l hn, b0], by rw [hf.frozen _ _ l hn, b1], by rw [hf.frozen _ _ l hn, b2], by rw [hf.frozen _ _ l hn, b3]⟩
theorem Bx.below {w w' : World} {g : Nat} {k n f : Int} {t : ByteArray} (h : Bx w g k n f t) (hb : Below w.heap.size w w') : Bx w' g k n f t := by
  have l := h.lt
  obtain ⟨hc, hf⟩ := bcell hb
  obtain ⟨a0, a1, a2, a3, b0, b1, b2, b3⟩ := h
  exact ⟨by rw [hc _ _ l, a0], by rw [hc _ _ l, a1], by rw [hc _ _ l, a2], by rw [hc _ _ l, a3], by rw [hf _ _ l, b0], by rw [hf _ _ l, b1], by rw [hf _ _ l, b2], by rw [hf _ _ l, b3]⟩
theorem Bx.new (w : World) (k n f : Int) (t : ByteArray) (T : TypeId) : Bx (w.alloc (.cells #[.int .i64 k, .int .i64 n, .int .u64 f, .string t] T)) w.heap.size k n f t := by
  constructor <;> simp [go_sem]

theorem Bx.al {w : World} {g : Nat} {k n f : Int} {t : ByteArray} (h : Bx w g k n f t) (o : Obj) : Bx (w.alloc o) g k n f t := h.below (below_box w o)

theorem Rd.set {w : World} {b g : Nat} {l : List UInt8} (h : Rd w b l) (hg : g ≠ b) (o : Nat) (u : Value) : Rd (w.setCell ⟨g, o, none⟩ u) b l := by
  have e := Below.heap_setCell w ⟨g, o, none⟩ u b (fun e => hg e.symm)
  exact ⟨by unfold World.cell?; rw [e]; exact h.c0, by unfold World.frozen?; rw [e]; exact h.f0⟩
theorem Fr.new {b g : Nat} {w w1 : World} (h : Fr b w w1) (hg : w.heap.size ≤ g) (o : Nat) (u : Value) : Fr b w (w1.setCell ⟨g, o, none⟩ u) :=
  ⟨h.os, h.tape, h.output, by simp; exact h.size, fun k hk hb => by rw [Below.heap_setCell w1 ⟨g, o, none⟩ u k (show k ≠ g by omega)]; exact h.block k hk hb⟩
theorem Fr.al {b : Nat} {w w1 : World} (h : Fr b w w1) (o : Obj) : Fr b w (w1.alloc o) := h.add (below_box w1 o)

theorem Bx.setN {w : World} {g : Nat} {k n f : Int} {t : ByteArray} (h : Bx w g k n f t) (m : Int) : Bx (w.setCell ⟨g, 1, none⟩ (.int .i64 m)) g k m f t := by
  obtain ⟨a0, a1, a2, a3, b0, b1, b2, b3⟩ := h
  constructor <;> simp [go_sem, *]
theorem Bx.setF {w : World} {g : Nat} {k n f : Int} {t : ByteArray} (h : Bx w g k n f t) (m : Int) : Bx (w.setCell ⟨g, 2, none⟩ (.int .u64 m)) g k n m t := by
  obtain ⟨a0, a1, a2, a3, b0, b1, b2, b3⟩ := h
  constructor <;> simp [go_sem, *]
theorem Bx.setT {w : World} {g : Nat} {k n f : Int} {t : ByteArray} (h : Bx w g k n f t) (m : ByteArray) : Bx (w.setCell ⟨g, 3, none⟩ (.string m)) g k n f m := by
  obtain ⟨a0, a1, a2, a3, b0, b1, b2, b3⟩ := h
  constructor <;> simp [go_sem, *]
theorem Bx.other {w : World} {g g' : Nat} {k n f : Int} {t : ByteArray} (h : Bx w g k n f t) (hg : ¬ g' = g) (o : Nat) (u : Value) : Bx (w.setCell ⟨g', o, none⟩ u) g k n f t := by
  have e := Below.heap_setCell w ⟨g', o, none⟩ u g (fun e => hg e.symm)
  obtain ⟨a0, a1, a2, a3, b0, b1, b2, b3⟩ := h
  unfold World.cell? at a0 a1 a2 a3
  unfold World.frozen? at b0 b1 b2 b3
  constructor <;> (first | unfold World.cell? | unfold World.frozen?) <;> rw [e] <;> assumption

theorem xorN (N : Nat) (h : N < 18446744073709551616) : IntKind.i64.wrap (Go.bits .xor .u64 (N : Int) 9223372036854775808) = (N : Int) - 9223372036854775808 := by
  have e := u64_xor_nat N 9223372036854775808 h (by decide)
  rw [show ((9223372036854775808 : Nat) : Int) = 9223372036854775808 from rfl] at e
  rw [e, IntKind.wrap_i64]
  have hx : (N ^^^ 9223372036854775808) = if 9223372036854775808 ≤ N then N - 9223372036854775808 else N + 9223372036854775808 := by
    by_cases h2 : 9223372036854775808 ≤ N
    · rw [if_pos h2]
      have e1 := Nat.two_pow_add_eq_or_of_lt (i := 63) (b := N - 9223372036854775808) (by omega) 1
      have e3 : N = (N - 9223372036854775808) ^^^ 9223372036854775808 := by
        apply Nat.eq_of_testBit_eq
        intro i
        have e2 : N = 2 ^ 63 * 1 ||| (N - 9223372036854775808) := by rw [← e1]; omega
        rw [show (9223372036854775808 : Nat) = 2 ^ 63 * 1 by decide] at *
        conv => lhs; rw [e2]
        rw [Nat.testBit_or, Nat.testBit_xor, Nat.mul_one, Nat.testBit_two_pow]
        by_cases hi : 63 = i
        · subst hi
          have : (N - 2 ^ 63 * 1).testBit 63 = false := Nat.testBit_lt_two_pow (by omega)
          rw [Nat.mul_one] at this
          simp [this]
        · simp [hi]
      conv => lhs; rw [e3]
      rw [Nat.xor_assoc, Nat.xor_self, Nat.xor_zero]
    · rw [if_neg h2]
      have e1 := Nat.two_pow_add_eq_or_of_lt (i := 63) (b := N) (by omega) 1
      apply Nat.eq_of_testBit_eq
      intro i
      have e2 : N + 9223372036854775808 = 2 ^ 63 * 1 ||| N := by rw [← e1]; omega
      rw [e2, show (9223372036854775808 : Nat) = 2 ^ 63 by decide, Nat.testBit_or, Nat.testBit_xor, Nat.mul_one, Nat.testBit_two_pow]
      by_cases hi : 63 = i
      · subst hi
        have : N.testBit 63 = false := Nat.testBit_lt_two_pow (by omega)
        simp [this]
      · simp [hi]
  rw [hx]
  split <;> omega

set_option maxRecDepth 100000 in
set_option maxHeartbeats 2000000 in
theorem value_nil (b : Nat) (w : World) (h : Rd w b []) :
    Calls Tryd.prog 48 #[.pointer (some ⟨b, 0, none⟩)] w (OutVr b (.error 3) w) := by
  have HU := hidF (fun W (hR : Rd W b []) => take_short b [] 1 1 rfl W hR (by decide) (by decide) (by decide))
  go_enter Tryd.func48, Tryd.ntmps48
  go_wp2_with (go_at_call 70; (with_reducible refine (HU.out _ (h.below (by repeat (first | (with_reducible exact Below.refl _ _) | (with_reducible refine below_al ?_ _) | (with_reducible refine below_drewN ?_ _) | (with_reducible refine Below.drew ?_) | (with_reducible refine below_via (by assumption) ?_) | (with_reducible refine below_sc ?_ ?_ _; · (first | (simp; done) | (simp; omega) | omega)))))).mono ?_); rintro e w' ⟨rfl, rfl⟩)
  exact ⟨rfl, rfl, .of (by repeat (first | (with_reducible exact Below.refl _ _) | (with_reducible refine below_al ?_ _) | (with_reducible refine below_drewN ?_ _) | (with_reducible refine Below.drew ?_) | (with_reducible refine below_via (by assumption) ?_) | (with_reducible refine below_sc ?_ ?_ _; · (first | (simp; done) | (simp; omega) | omega))))⟩

set_option maxRecDepth 100000 in
set_option maxHeartbeats 2000000 in
theorem value_null (b : Nat) (l : List UInt8) (w : World) (h : Rd w b (0 :: l)) (hl : l.length ≤ 140737488355326) :
    Calls Tryd.prog 48 #[.pointer (some ⟨b, 0, none⟩)] w (OutVr b (.ok (⟨0, 0, 0, ⟨#[]⟩⟩, l)) w) := by
  have hlt := h.lt
  have HU := hidF (fun W (hR : Rd W b (0 :: l)) => take_ok b (0 :: l) 1 1 rfl W hR (by simp) (by simp; omega))
  simp only [List.take_succ_cons, List.take_zero, List.drop_succ_cons, List.drop_zero] at HU
  have hix := idx0 0
  have hnb : ¬ w.heap.size = b := by omega
  have HS := hidF (fun W => sound_c 0 0 0 ⟨#[]⟩ W (by constructor <;> decide))
  rw [sound_null] at HS
  go_enter Tryd.func48, Tryd.ntmps48
  go_wp2_with fail
  (with_reducible refine (HU.out _ (h.below (by repeat (first | (with_reducible exact Below.refl _ _) | (with_reducible refine below_al ?_ _) | (with_reducible refine below_drewN ?_ _) | (with_reducible refine Below.drew ?_) | (with_reducible refine below_via (by assumption) ?_) | (with_reducible refine below_sc ?_ ?_ _; · (first | (simp; done) | (simp; omega) | omega)))))).mono ?_)
  rintro e w1 ⟨rfl, hR1, hF1⟩
  have HX := hidF (Bx.fr (Bx.new w 0 0 0 ⟨#[]⟩ 56) hF1 hnb)
  have hF1' := hidF (show Fr b w w1 from Fr.trans (w1 := w.alloc (.cells #[.int .i64 0, .int .i64 0, .int .u64 0, .string ⟨#[]⟩] 56)) (Fr.of (by repeat (first | (with_reducible exact Below.refl _ _) | (with_reducible refine below_al ?_ _) | (with_reducible refine below_drewN ?_ _) | (with_reducible refine Below.drew ?_) | (with_reducible refine below_via (by assumption) ?_) | (with_reducible refine below_sc ?_ ?_ _; · (first | (simp; done) | (simp; omega) | omega))))) hF1)
  have hs1 := hF1.size
  simp at hs1
  clear hF1
  have hnn : ¬ w1.heap.size = w.heap.size := by omega
  have hnn' : ¬ w.heap.size = w1.heap.size := by omega
  have hnb1 : ¬ w1.heap.size = b := by omega
  go_wp2_with (first | (go_at_call 60; (with_reducible refine (HS.out _).mono ?_); rintro e w2 ⟨rfl, hb2⟩; have hR2 := hidF (Rd.below (hR1.below (by repeat (first | (with_reducible exact Below.refl _ _) | (with_reducible refine below_al ?_ _) | (with_reducible refine below_drewN ?_ _) | (with_reducible refine Below.drew ?_) | (with_reducible refine below_via (by assumption) ?_) | (with_reducible refine below_sc ?_ ?_ _; · (first | (simp; done) | (simp; omega) | omega))))) hb2); have hF2' := hidF (Fr.add (hF1'.out.al _) hb2); have hs2 := hb2.size; simp at hs2; obtain ⟨a0, a1, a2, a3, b0, b1, b2, b3⟩ := (HX.out.al _).below hb2; obtain ⟨d0, d1, d2, d3, e0, e1, e2, e3⟩ := (Bx.new w1 _ _ _ _ _).below hb2; clear hb2) | (go_at_call 47; (with_reducible refine (rmust_t _ _).mono ?_); rintro e w9 ⟨rfl, rfl⟩))
  refine bodyPost_ret (v := .agg #[.int .i64 (0), .int .i64 (0), .int .u64 (0), .string (⟨#[]⟩)]) (by simp [results, Tryd.results48, go_sem, *]) rfl ⟨rfl, ?_, ?_⟩
  · repeat (refine Rd.set ?_ (by omega) _ _)
    exact hR2.out
  · repeat (refine Fr.new ?_ (by omega) _ _)
    exact hF2'.out

end Go.Proofs.YthpkjkcfhipjhaaDoor
