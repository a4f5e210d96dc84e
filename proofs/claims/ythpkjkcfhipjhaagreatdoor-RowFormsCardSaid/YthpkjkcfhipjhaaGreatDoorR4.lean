/- Rows' bytes: the small functions (bits, word) and the reader's take and must. -/
import Derived.Test.YthpkjkcfhipjhaaGreatDoorR3
import Derived.Test.YthpkjkcfhipjhaaGreatDoorMC
import Derived.Test.YthpkjkcfhipjhaaGreatDoorMB
import Derived.Test.YthpkjkcfhipjhaaGreatDoorPRBx
import Derived.Laws.BitsAllLaws
namespace Go.Proofs.YthpkjkcfhipjhaaGreatDoor
set_option linter.unusedVariables false
set_option linter.unusedSimpArgs false
open Go.RowKit Go.Proofs.YthpkjkcfhipjhaaGreatDoorW.PrintWords Go.Proofs.YthpkjkcfhipjhaaGreatDoorW.PrintLast

theorem flipAnd (a : Nat) (h : a < 18446744073709551616) : (a &&& 9223372036854775808) = (if 9223372036854775808 ≤ a then 9223372036854775808 else 0) := by
  have e : (9223372036854775808 : Nat) = 2 ^ 63 := by decide
  rw [e]
  apply Nat.eq_of_testBit_eq
  intro i
  rw [Nat.testBit_and, Nat.testBit_two_pow]
  by_cases hi : 63 = i
  · subst hi
    rw [Nat.testBit_eq_decide_div_mod_eq, decide_eq_true rfl, Bool.and_true]
    by_cases h2 : 2 ^ 63 ≤ a
    · rw [if_pos h2, Nat.testBit_two_pow_self]; simp; omega
    · rw [if_neg h2, Nat.zero_testBit]; simp; omega
  · rw [decide_eq_false hi, Bool.and_false]
    split
    · rw [Nat.testBit_two_pow, decide_eq_false hi]
    · rw [Nat.zero_testBit]
theorem flipOr (a : Nat) (h : a < 9223372036854775808) : (a ||| 9223372036854775808) = a + 9223372036854775808 := by
  have e : (9223372036854775808 : Nat) = 2 ^ 63 := by decide
  have := Nat.two_pow_add_eq_or_of_lt (i := 63) (b := a) (by omega) 1
  rw [e, Nat.or_comm, ← Nat.mul_one (2 ^ 63), ← this]; omega
theorem flipNot (a : Nat) (h1 : 9223372036854775808 ≤ a) (h : a < 18446744073709551616) : (a &&& (18446744073709551615 - 9223372036854775808)) = a - 9223372036854775808 := by
  have e : 18446744073709551615 - 9223372036854775808 = 2 ^ 63 - 1 := by decide
  rw [e, Nat.and_two_pow_sub_one_eq_mod]; omega

theorem bitFlip (a : Int) (h : U64 a) : Go.bits .and .u64 a 9223372036854775808 = 0 ↔ a < 9223372036854775808 := by
  obtain ⟨h0, h1⟩ := h
  rw [u64_and a 9223372036854775808 h0 h1 (by decide) (by decide)]
  have e : (9223372036854775808 : Int).toNat = 9223372036854775808 := by decide
  rw [e, flipAnd _ (by omega)]
  split <;> simp <;> omega
theorem turned_f (a : Int) (h : U64 a) : PRB.row_turned.f a = some (rKey a) := by
  have hb := bitFlip a h
  obtain ⟨h0, h1⟩ := h
  unfold PRB.row_turned.f rKey
  by_cases hlt : a < 9223372036854775808
  · rw [if_pos (hb.2 hlt), if_pos hlt, u64_or a 9223372036854775808 h0 h1 (by decide) (by decide)]
    have e : (9223372036854775808 : Int).toNat = 9223372036854775808 := by decide
    rw [e, flipOr _ (by omega)]
    congr 1; omega
  · rw [if_neg (fun e => hlt (hb.1 e)), if_neg hlt, xor_max a ⟨h0, h1⟩]
theorem back_f (a : Int) (h : U64 a) : PRB.row_back.f a = some (backI a) := by
  have hb := bitFlip a h
  obtain ⟨h0, h1⟩ := h
  unfold PRB.row_back.f backI
  by_cases hlt : a < 9223372036854775808
  · rw [if_pos (hb.2 hlt), if_neg (by omega), xor_max a ⟨h0, h1⟩]
  · rw [if_neg (fun e => hlt (hb.1 e)), if_pos (by omega), u64_andNot a 9223372036854775808 h0 h1 (by decide) (by decide)]
    have e : (9223372036854775808 : Int).toNat = 9223372036854775808 := by decide
    rw [e, flipNot _ (by omega) (by omega)]
    congr 1; omega

theorem turned_c (a : Int) (h : U64 a) (w : World) : Calls Tryz.prog 60 #[.int .u64 a] w fun e w' => e = .returned (.int .u64 (rKey a)) ∧ Below w.heap.size w w' := by
  refine (PRB.row_turned.calls a _ w (turned_f a h)).mono ?_
  rintro e w' ⟨rfl, n, rfl⟩
  exact ⟨rfl, (by repeat (first | (with_reducible exact Below.refl _ _) | (with_reducible refine below_al ?_ _) | (with_reducible refine below_drewN ?_ _) | (with_reducible refine Below.drew ?_) | (with_reducible refine below_via (by assumption) ?_) | (with_reducible refine below_sc ?_ ?_ _; · (first | (simp; done) | (simp; omega) | omega))))⟩
theorem back_c (a : Int) (h : U64 a) (w : World) : Calls Tryz.prog 106 #[.int .u64 a] w fun e w' => e = .returned (.int .u64 (backI a)) ∧ Below w.heap.size w w' := by
  refine (PRB.row_back.calls a _ w (back_f a h)).mono ?_
  rintro e w' ⟨rfl, n, rfl⟩
  exact ⟨rfl, (by repeat (first | (with_reducible exact Below.refl _ _) | (with_reducible refine below_al ?_ _) | (with_reducible refine below_drewN ?_ _) | (with_reducible refine Below.drew ?_) | (with_reducible refine below_via (by assumption) ?_) | (with_reducible refine below_sc ?_ ?_ _; · (first | (simp; done) | (simp; omega) | omega))))⟩

theorem word_step (k : Nat) (n : Nat) (xs : List Int) (i : Nat) (hi : i < 8) (hx : xs.length = 8) :
    PRB.row_word.l0 (k + 1) (n : Int) xs 8 (i : Int) = PRB.row_word.l0 k (n : Int) (xs.set i (((n / 2 ^ (56 - 8 * i) % 256 : Nat)) : Int)) 8 ((i + 1 : Nat) : Int) := by
  have w1 : wrap64 (8 * (i : Int)) = 8 * (i : Int) := by unfold wrap64; omega
  have w2 : wrap64 (56 - 8 * (i : Int)) = 56 - 8 * (i : Int) := by unfold wrap64; omega
  have w3 : wrap64 ((i : Int) + 1) = ((i + 1 : Nat) : Int) := by unfold wrap64; omega
  have e1 : shr .u64 (n : Int) (56 - 8 * (i : Int)) % 256 = ((n / 2 ^ (56 - 8 * i) % 256 : Nat) : Int) := by
    unfold shr
    have : min (56 - 8 * (i : Int)).toNat IntKind.u64.bits = 56 - 8 * i := by
      have : IntKind.u64.bits = 64 := rfl
      rw [this]; omega
    rw [this]
    simp
  simp only [PRB.row_word.l0]
  rw [if_pos (by omega), w1, w2, if_pos (by omega), if_pos (by omega), if_pos (by omega), w3, e1]
  simp
theorem word_f (n : Nat) (hn : n < 18446744073709551616) : PRB.row_word.f 9 (n : Int) = some ((beB 8 n).map fun c => (c.toNat : Int)) := by
  unfold PRB.row_word.f
  rw [if_pos (by decide)]
  simp only [Option.bind_some, List.length_replicate]
  show PRB.row_word.l0 9 (n : Int) (List.replicate 8 0) 8 ((0 : Nat) : Int) = _
  rw [word_step 8 n _ 0 (by decide) (by simp), word_step 7 n _ 1 (by decide) (by simp), word_step 6 n _ 2 (by decide) (by simp), word_step 5 n _ 3 (by decide) (by simp), word_step 4 n _ 4 (by decide) (by simp), word_step 3 n _ 5 (by decide) (by simp), word_step 2 n _ 6 (by decide) (by simp), word_step 1 n _ 7 (by decide) (by simp)]
  simp only [PRB.row_word.l0]
  rw [if_neg (by decide)]
  simp [beB, List.replicate]
  omega

/-- the bytes of a number, in new memory -/
theorem word_c (n : Nat) (hn : n < 18446744073709551616) (x : Int) (hx : x = (n : Int)) (w : World) :
    Calls Tryz.prog 59 #[.int .u64 x] w fun e w' => ∃ ad c, e = .returned (.slice (some ad) 8 c) ∧ (∀ j u, (Lib.byteCells (beB 8 n))[j]? = some u → w'.cell? (ad.add j) = some u) ∧ w.heap.size ≤ ad.block ∧ Below w.heap.size w w' := by
  subst hx
  refine (PRB.row_word.calls 9 (n : Int) _ w (word_f n hn)).mono ?_
  rintro e w' ⟨v, rfl, hR, hb⟩
  obtain ⟨A, c, rfl, hc, hC⟩ := Kd.R_reads hR
  have hl : ((beB 8 n).map fun c => (c.toNat : Int)).length = 8 := by rw [List.length_map, beB_len]
  rw [hl] at hC hR ⊢
  obtain ⟨h1, h2, h3⟩ := hC
  obtain ⟨ad, rfl, hcells⟩ := h3 (by decide)
  refine ⟨ad, c, rfl, ?_, ?_, hb⟩
  · intro j u hj
    unfold Lib.byteCells at hj
    rw [List.getElem?_map] at hj
    obtain ⟨b, hb1, hb2⟩ := Option.map_eq_some_iff.1 hj
    obtain ⟨cs, hl, hK, hcl⟩ := hcells j (b.toNat : Int) (by rw [List.getElem?_map, hb1]; rfl)
    have hK' : cs = [.int .u8 b.toNat] := hK
    subst hK'
    have := hcl 0 _ rfl
    rw [← hb2]
    simpa [show (Kd.int .u8).sz = 1 from rfl] using this
  · exact Kd.R_base hR _ (by simp [Value.ownBlock])

/-! the reader -/
/-- what a reading gives up with -/
def flr (c : Int) : List PanicEntry := [{ v := .iface 106 (.agg #[.int .i64 c]), recovered := false }]

theorem rmust_t (c : Int) (w : World) : Calls Tryz.prog 82 #[.bool true, .int .i64 c] w fun e w' => e = .returned (.tuple #[]) ∧ w = w' := by
  go_enter Tryz.func82, Tryz.ntmps82
  go_wp2
  go_end0
  exact ⟨rfl, rfl⟩
theorem rmust_f (c : Int) (w : World) : Calls Tryz.prog 82 #[.bool false, .int .i64 c] w fun e w' => e = .panicked (flr c) ∧ w = w' := by
  go_enter Tryz.func82, Tryz.ntmps82
  go_wp2
  exact ⟨rfl, rfl, rfl⟩

/-- the bytes l as a string -/
def bs (l : List UInt8) : ByteArray := ⟨l.toArray⟩
theorem bs_size (l : List UInt8) : (bs l).size = l.length := by simp [bs, ByteArray.size]
theorem bs_list (l : List UInt8) : (bs l).data.toList = l := rfl
theorem bs_extract (l : List UInt8) (i j : Nat) : (bs l).extract i j = bs ((l.take j).drop i) := by
  apply ByteArray.ext
  apply Array.toList_inj.1
  rw [Lib.extract_data]
  simp only [bs]
  rw [List.drop_take]

/-- the reader in block b has these bytes before it -/
structure Rd (w : World) (b : Nat) (l : List UInt8) : Prop where
  c0 : w.cell? ⟨b, 0, none⟩ = some (.string (bs l))
  f0 : w.frozen? ⟨b, 0, none⟩ = false
theorem Rd.lt {w : World} {b : Nat} {l : List UInt8} (h : Rd w b l) : b < w.heap.size := World.block_lt_of_cell? w _ h.c0
theorem Rd.below {w w' : World} {b : Nat} {l : List UInt8} (h : Rd w b l) (hb : Below w.heap.size w w') : Rd w' b l := by
  obtain ⟨hc, hf⟩ := bcell hb
  exact ⟨by rw [hc _ _ h.lt]; exact h.c0, by rw [hf _ _ h.lt]; exact h.f0⟩

/-- all but block b is as it was -/
structure Fr (b : Nat) (w w' : World) : Prop where
  os : w'.os = w.os
  tape : w'.tape = w.tape
  output : w'.output = w.output
  size : w.heap.size ≤ w'.heap.size
  block : ∀ k, k < w.heap.size → k ≠ b → w'.heap[k]? = w.heap[k]?

theorem Fr.refl (b : Nat) (w : World) : Fr b w w := ⟨rfl, rfl, rfl, Nat.le_refl _, fun _ _ _ => rfl⟩
theorem Fr.trans {b : Nat} {w w1 w2 : World} (h : Fr b w w1) (k : Fr b w1 w2) : Fr b w w2 :=
  ⟨k.os.trans h.os, k.tape.trans h.tape, k.output.trans h.output, Nat.le_trans h.size k.size, fun i hi hb => (k.block i (Nat.lt_of_lt_of_le hi h.size) hb).trans (h.block i hi hb)⟩
theorem Fr.of {b : Nat} {w w' : World} (h : Below w.heap.size w w') : Fr b w w' := ⟨h.os, h.tape, h.output, h.size, fun i hi _ => h.block i hi⟩
theorem Fr.add {b : Nat} {w w1 w2 : World} (h : Fr b w w1) (k : Below w1.heap.size w1 w2) : Fr b w w2 := h.trans (.of k)
theorem Fr.set {b : Nat} {w w1 : World} (h : Fr b w w1) (o : Nat) (u : Value) : Fr b w (w1.setCell ⟨b, o, none⟩ u) :=
  h.trans ⟨rfl, rfl, rfl, by simp, fun i _ hb => Below.heap_setCell w1 ⟨b, o, none⟩ u i hb⟩
theorem Fr.below {b B : Nat} {w0 w w' : World} (h : Fr b w w') (hb : Below B w0 w) (hB : B ≤ b) (hs : B ≤ w.heap.size) : Below B w0 w' :=
  ⟨h.os.trans hb.os, h.tape.trans hb.tape, h.output.trans hb.output, Nat.le_trans hb.size h.size, fun i hi => (h.block i (by omega) (by omega)).trans (hb.block i hi)⟩
theorem Fr.cell {b : Nat} {w w' : World} (h : Fr b w w') (k o : Nat) (hk : k < w.heap.size) (hb : k ≠ b) : w'.cell? ⟨k, o, none⟩ = w.cell? ⟨k, o, none⟩ := by
  unfold World.cell?; rw [h.block k hk hb]
theorem Fr.frozen {b : Nat} {w w' : World} (h : Fr b w w') (k o : Nat) (hk : k < w.heap.size) (hb : k ≠ b) : w'.frozen? ⟨k, o, none⟩ = w.frozen? ⟨k, o, none⟩ := by
  unfold World.frozen?; rw [h.block k hk hb]

set_option maxRecDepth 100000 in
theorem take_ok (b : Nat) (l : List UInt8) (n : Nat) (x : Int) (hx : x = (n : Int)) (w : World) (h : Rd w b l) (hn : n ≤ l.length) (hl : l.length ≤ 140737488355328) :
    Calls Tryz.prog 104 #[.pointer (some ⟨b, 0, none⟩), .int .i64 x] w fun e w' => e = .returned (.string (bs (l.take n))) ∧ Rd w' b (l.drop n) ∧ Fr b w w' := by
  subst hx
  have hlt := h.lt
  obtain ⟨c0, f0⟩ := h
  have hs := bs_size l
  have e1 : Hid ((bs l).extract 0 n = bs (l.take n)) := hidF (by rw [bs_extract]; rfl)
  have e2 : Hid ((bs l).extract n (bs l).size = bs (l.drop n)) := hidF (by rw [bs_extract, hs, List.take_of_length_le (Nat.le_refl _)])
  generalize bs l = s at *
  have hn2 : n ≤ s.size := by omega
  have hl2 : s.size ≤ 140737488355328 := by omega
  have hd : decide ((s.size : Int) ≥ (n : Int)) = true := decide_eq_true (by omega)
  clear hs hn hl
  go_enter Tryz.func104, Tryz.ntmps104
  go_wp2_with (go_at_call 82; (with_reducible refine (rmust_t _ _).mono ?_); rintro e w' ⟨rfl, rfl⟩)
  go_ret
  refine ⟨?_, ⟨?_, ?_⟩, ?_⟩
  · rw [e1.out] <;> rfl
  · rw [← e2.out]; simp [go_sem, c0]
  · simp [go_sem, f0]
  · exact (Fr.refl _ _).set _ _

set_option maxRecDepth 100000 in
theorem take_short (b : Nat) (l : List UInt8) (n : Nat) (x : Int) (hx : x = (n : Int)) (w : World) (h : Rd w b l) (hn : l.length < n) (hn2 : n ≤ 1000) (hl : l.length ≤ 140737488355328) :
    Calls Tryz.prog 104 #[.pointer (some ⟨b, 0, none⟩), .int .i64 x] w fun e w' => e = .panicked (flr 3) ∧ w = w' := by
  subst hx
  obtain ⟨c0, f0⟩ := h
  have hs := bs_size l
  generalize bs l = s at *
  have hl2 : s.size ≤ 140737488355328 := by omega
  have hd : decide ((s.size : Int) ≥ (n : Int)) = false := decide_eq_false (by omega)
  have hd1 : decide (n ≤ s.size) = false := decide_eq_false (by omega)
  have hd2 : decide ((n : Int) ≤ (s.size : Int)) = false := decide_eq_false (by omega)
  clear hs hn hl
  go_enter Tryz.func104, Tryz.ntmps104
  go_wp2_with (go_at_call 82; (with_reducible refine (rmust_f _ _).mono ?_); rintro e w' ⟨rfl, rfl⟩)
  exact ⟨rfl, rfl, rfl⟩

end Go.Proofs.YthpkjkcfhipjhaaGreatDoor
