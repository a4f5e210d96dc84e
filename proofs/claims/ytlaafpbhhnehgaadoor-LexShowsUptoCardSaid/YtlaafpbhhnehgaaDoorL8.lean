/- (*lex.scanner).skip: past blanks and remarks. -/
import Derived.Test.YtlaafpbhhnehgaaDoorL7
import Derived.Test.YtlaafpbhhnehgaaDoorLP2
import Derived.Shelf.Strings.SlTrimAscii
namespace Go.Proofs.YtlaafpbhhnehgaaDoor
set_option linter.unusedVariables false
set_option linter.unusedSimpArgs false
open Go.RowKit Go.Lib

/-- all but block b is as it was -/
structure Fr (b : Nat) (w w' : World) : Prop where
  os : w'.os = w.os
  tape : w'.tape = w.tape
  output : w'.output = w.output
  size : w.heap.size ≤ w'.heap.size
  block : ∀ k, k < w.heap.size → k ≠ b → w'.heap[k]? = w.heap[k]?

theorem Fr.refl (b : Nat) (w : World) : Fr b w w := ⟨rfl, rfl, rfl, Nat.le_refl _, fun _ _ _ => rfl⟩
theorem Fr.trans {b : Nat} {w w1 w2 : World} (h : Fr b w w1) (k : Fr b w1 w2) : Fr b w w2 :=
  ⟨k.os.trans h.os, k.tape.trans h.tape, k.output.trans h.output, Nat.le_trans h.size k.size, fun i hi hb => (k.block i (Nat.lt_of_lt_of_le hi h.size) hb).trans (h.block i hi hb)⟩
theorem Fr.of {b : Nat} {w w' : World} (h : Below w.heap.size w w') : Fr b w w' := ⟨h.os, h.tape, h.output, h.size, fun i hi _ => h.block i hi⟩
theorem Fr.add {b : Nat} {w w1 w2 : World} (h : Fr b w w1) (k : Below w1.heap.size w1 w2) : Fr b w w2 := h.trans (.of k)
theorem Fr.set {b : Nat} {w w1 : World} (h : Fr b w w1) (o : Nat) (u : Value) : Fr b w (w1.setCell ⟨b, o, none⟩ u) :=
  h.trans ⟨rfl, rfl, rfl, by simp, fun i _ hb => Below.heap_setCell w1 ⟨b, o, none⟩ u i hb⟩
theorem Fr.below {b B : Nat} {w0 w w' : World} (h : Fr b w w') (hb : Below B w0 w) (hB : B ≤ b) (hs : B ≤ w.heap.size) : Below B w0 w' :=
  ⟨h.os.trans hb.os, h.tape.trans hb.tape, h.output.trans hb.output, Nat.le_trans hb.size h.size, fun i hi => (h.block i (by omega) (by omega)).trans (hb.block i hi)⟩
theorem Sc.below {w w' : World} {b : Nat} {s : ByteArray} {p : Int} (h : Sc w b s p) (hb : Below w.heap.size w w') : Sc w' b s p := by
  have l := World.block_lt_of_cell? w _ h.c0
  simp only at l
  obtain ⟨hc, hf⟩ := bcell hb
  exact ⟨by rw [hc _ _ l]; exact h.c0, by rw [hc _ _ l]; exact h.c1, by rw [hf _ _ l]; exact h.f1⟩
theorem Sc.lt {w : World} {b : Nat} {s : ByteArray} {p : Int} (h : Sc w b s p) : b < w.heap.size := World.block_lt_of_cell? w _ h.c0
theorem Sc.set {w : World} {b : Nat} {s : ByteArray} {p : Int} (h : Sc w b s p) (q : Int) : Sc (w.setCell ⟨b, 1, none⟩ (.int .i64 q)) b s q := by
  obtain ⟨c0, c1, f1⟩ := h
  exact ⟨by simp [go_sem, c0, c1], by simp [go_sem, c0, c1], by simp [go_sem, f1]⟩

theorem lays_trim : (Tryd.prog.info? 89).map (fun i => (i.zero, i.size)) = some (some (.agg (Array.replicate 256 (.bool false))), 256) := by kernel_rfl

theorem dropB_list (s : ByteArray) (n : Nat) : (dropB s n).data.toList = s.data.toList.drop n := by
  unfold dropB
  rw [Lib.extract_data]
  rw [List.take_of_length_le (by simp)]; rfl
theorem dropB_mk (s : ByteArray) (n : Nat) : (⟨(s.data.toList.drop n).toArray⟩ : ByteArray) = dropB s n := by
  apply ByteArray.ext; rw [← dropB_list]
theorem dropB_size (s : ByteArray) (n : Nat) : (dropB s n).size = s.size - n := by
  rw [Lib.size_eq, dropB_list, List.length_drop, Lib.size_eq]

theorem trimB (s : ByteArray) (p q : Nat) (hq : (s.data.toList.drop p).dropWhile sp = s.data.toList.drop q) (w : World) :
    Calls Tryd.prog 41 #[.string (dropB s p), .string ⟨#[9, 10, 13, 32]⟩] w fun e w' => e = .returned (.string (dropB s q)) ∧ Below w.heap.size w w' := by
  refine (Any.strings_TrimLeft_laid Tryd.lays161 lays_trim (dropB s p) ⟨#[9, 10, 13, 32]⟩ w (by decide) (ascii_of_all (by decide))).mono ?_
  rintro e w' ⟨rfl, hb⟩
  refine ⟨?_, hb⟩
  rw [dropB_list, trim_sp, hq, dropB_mk]

theorem hpB (s : ByteArray) (q : Nat) (pre : ByteArray) (r : Bool) (h : hasPrefix (s.data.toList.drop q) pre.data.toList = r) (w : World) :
    Calls Tryd.prog 42 #[.string (dropB s q), .string pre] w fun e w' => e = .returned (.bool r) ∧ w' = w := by
  refine (Tryd.strings_HasPrefix (dropB s q) pre w).mono ?_
  rintro e w' ⟨rfl, rfl⟩
  rw [dropB_list, h]; exact ⟨rfl, rfl⟩

theorem cutB (s : ByteArray) (q : Nat) (hs : s.size ≤ 65536) (w0 w : World) (ht : Tab w0) (hb : Below w0.heap.size w0 w) (h1 : 1 < w0.heap.size) :
    Calls Tryd.prog 43 #[.string (dropB s q), .string ⟨#[10]⟩] w fun e w' => (∃ t u v, t.size = (Lib.cut (s.data.toList.drop q) [10]).1.length ∧ e = .returned (.tuple #[.string t, .string u, .bool v])) ∧ Below w.heap.size w w' := by
  obtain ⟨m, hm⟩ := ht.len
  have hc := hb.cell (p := ⟨1, 0, none⟩) h1
  refine (Tryd.strings_Cut (dropB s q) ⟨#[10]⟩ m w (by rw [dropB_size]; omega) (by rw [hc]; exact hm)).mono ?_
  rintro e w' ⟨rfl, n, rfl⟩
  rw [dropB_list]
  exact ⟨⟨_, _, _, by simp [Lib.size_eq], rfl⟩, ⟨rfl, rfl, rfl, Nat.le_refl _, fun _ _ => rfl⟩⟩

theorem indexB (s : ByteArray) (q : Nat) (hs : s.size ≤ 65536) (w0 w : World) (ht : Tab w0) (hb : Below w0.heap.size w0 w) (h1 : 1 < w0.heap.size) (u : ByteArray) (hu : u = dropB s (q + 2 : Nat)) (i : Int) (hi : index ((s.data.toList.drop q).drop 2) [42, 47] = i) :
    Calls Tryd.prog 44 #[.string u, .string ⟨#[42, 47]⟩] w fun e w' => e = .returned (.int .i64 i) ∧ w' = w := by
  subst hu
  obtain ⟨m, hm⟩ := ht.len
  have hc := hb.cell (p := ⟨1, 0, none⟩) h1
  refine (Tryd.strings_Index (dropB s (q + 2 : Nat)) ⟨#[42, 47]⟩ m w (by rw [dropB_size]; omega) (by rw [hc]; exact hm)).mono ?_
  rintro e w' ⟨rfl, rfl⟩
  rw [dropB_list, ← List.drop_drop, hi]
  exact ⟨rfl, rfl⟩

theorem Tab.one {w : World} (h : Tab w) : 1 < w.heap.size := by
  obtain ⟨m, hm⟩ := h.len
  exact World.block_lt_of_cell? w _ hm

theorem dropB_drop2 (s : ByteArray) (q : Nat) : (dropB s q).extract 2 (dropB s q).size = dropB s (q + 2 : Nat) := by
  apply ByteArray.ext
  have e1 : ((dropB s q).extract 2 (dropB s q).size).data.toList = (dropB s (q + 2 : Nat)).data.toList := by
    rw [Lib.extract_data, dropB_list, dropB_list, List.drop_drop, List.take_of_length_le]
    rw [List.length_drop, dropB_size, ← Lib.size_eq]; omega
  exact Array.toList_inj.1 e1

end Go.Proofs.YtlaafpbhhnehgaaDoor
