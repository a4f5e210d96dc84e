/- a part of the claim: what the card leans on, out of the texts L4, L5, L6, L7, L8, L9, LP3, L10, L11, L12, L13 (put together by wip/tools/shake.py). -/
import Derived.Test.YtlaafpbhhnehgaaDoorSB2
import Derived.Test.YtlaafpbhhnehgaaDoorSB3
import Derived.Shelf.Strings.SlTrimAscii
import Derived.Deep.RegionWith
import Derived.BigRegion
import Derived.Sort.Walk0
import Derived.Lib.Case
import Derived.Lib.AppendIntMem
section
namespace Go.Proofs.YtlaafpbhhnehgaaDoor
set_option linter.unusedVariables false
set_option linter.unusedSimpArgs false
open Go.RowKit Go.Proofs.YtlaafpbhhnehgaaDoorW.PrintWords Go.Proofs.YtlaafpbhhnehgaaDoorW.PrintLast
def wordsB : List ByteArray := wordsL.map fun l => ⟨l.toArray⟩
theorem wordsB_len : wordsB.length = wordsL.length := by simp [wordsB]
theorem words_row (w : World) (cs : List (List UInt8)) (t : TypeId) (h : cs.length ≤ 9223372036854775807) :
    Kd.C Kd.string (w.alloc (.cells (cs.map fun l => Value.string ⟨l.toArray⟩).toArray t)) (some ⟨w.heap.size, 0, none⟩) (cs.map fun l => (⟨l.toArray⟩ : ByteArray)).length (cs.map fun l => (⟨l.toArray⟩ : ByteArray)) := by
  refine ⟨rfl, by simpa using h, fun _ => ⟨_, rfl, fun j p hj => ⟨[.string p], rfl, rfl, ?_⟩⟩⟩
  intro i u hu
  match i, hu with
  | 0, hu =>
    obtain rfl : Value.string p = u := by simpa using hu
    have e : ({ block := w.heap.size, off := 0, spot := none } : Addr).add (j * Kd.string.sz + 0) = ⟨w.heap.size, j, none⟩ := by
      simp [Addr.add, show Kd.string.sz = 1 from rfl]; omega
    rw [e, World.cell?_alloc_mark]
    rw [List.getElem?_map] at hj
    obtain ⟨l, hl, rfl⟩ := Option.map_eq_some_iff.1 hj
    simp [hl]
theorem words_k (w : World) (ht : Tab w) :
    Calls Tryd.prog 39 #[] w fun e w' => e = .returned (.slice (some ⟨w.heap.size, 0, none⟩) wordsB.length wordsB.length) ∧ Below w.heap.size w w' ∧ Kd.C Kd.string w' (some ⟨w.heap.size, 0, none⟩) wordsB.length wordsB :=
  (words_c w ht).mono fun e w' ⟨h1, h2⟩ => ⟨by rw [wordsB_len]; exact h1, by subst h2; exact below_box _ _, by subst h2; exact words_row w wordsL 9 (by decide +kernel)⟩
set_option maxRecDepth 100000 in
theorem isWord_c (s : ByteArray) (w : World) (ht : Tab w) (k : Nat) (i : Int) (r : Bool) (h : PLB.slices_BinarySearch_string_string.f k wordsB s = some (i, r)) :
    Calls Tryd.prog 15 #[.string s] w fun e w' => e = .returned (.bool r) ∧ Below w.heap.size w w' := by
  go_enter Tryd.func15, Tryd.ntmps15
  go_wp2_with (first | (go_at_call 39; refine (words_k _ ht).mono ?_; rintro e W ⟨rfl, hb, hC⟩) | (go_at_call 38; refine (PLB.slices_BinarySearch_string_string.calls k _ _ wordsB s i r _ hC (Nat.le_refl _) h).mono ?_; rintro e W' ⟨rfl, n, rfl⟩))
  go_ret
  exact ⟨rfl, hb.os, hb.tape, hb.output, hb.size, hb.block⟩
end Go.Proofs.YtlaafpbhhnehgaaDoor
end
section
namespace Go.Proofs.YtlaafpbhhnehgaaDoor
set_option linter.unusedVariables false
set_option linter.unusedSimpArgs false
open Go.RowKit Go.Lib
/-- a letter that no name has -/
def odd1 (r : Nat) : Bool := decide ((r : Int) < 32) || decide (126 < (r : Int))
set_option maxRecDepth 100000 in
theorem isName1_c (r : Nat) (w : World) : Calls Tryd.prog 53 #[.int .i32 (r : Int)] w fun e w' => e = .returned (.bool (odd1 r)) ∧ ∃ q, w' = w.drewN q := by
  go_enter Tryd.func53, Tryd.ntmps53
  go_wp2
  all_goals go_ret
  all_goals refine ⟨?_, 0, rfl⟩
  all_goals (simp [odd1, *]; try omega)
theorem enter_isName1 : ∀ args w, (callFunc 53 args).run Tryd.prog w = .ok (.enter 53 args) w := by
  intro args w
  simp [go_sem, Tryd.func53]
/-- whether a text is a name -/
def nameB (s : ByteArray) : Bool := if h : 0 < s.size then ((s[0].toNat : Int) != 64) && decide ((s.size : Int) ≤ 32) && decide (Lib.idxFunc odd1 true s < 0) else false
set_option maxRecDepth 100000 in
theorem isName_c (s : ByteArray) (w : World) : Calls Tryd.prog 26 #[.string s] w fun e w' => e = .returned (.bool (nameB s)) ∧ Below w.heap.size w w' := by
  have hp : ∀ W, PredAt Tryd.prog 53 #[] encR odd1 W := fun W W' x _ => isName1_c x W'
  by_cases h0 : 0 < s.size
  · have he : s.toList.isEmpty = false := by
      rw [ByteArray.toList_eq]; cases hd : s.data.toList with
      | nil => have : s.size = 0 := by simpa using congrArg List.length hd
               omega
      | cons a t => rfl
    go_enter Tryd.func26, Tryd.ntmps26
    go_wp2_with (go_at_call 30; refine (Tryd.strings_IndexFunc 53 #[] enter_isName1 odd1 s _ (hp _)).mono ?_; rintro e w' ⟨rfl, hb⟩)
    all_goals go_ret
    all_goals refine ⟨?_, (by repeat (first | (with_reducible exact Below.refl _ _) | (with_reducible refine below_al ?_ _) | (with_reducible refine below_drewN ?_ _) | (with_reducible refine Below.drew ?_) | (with_reducible refine below_via (by assumption) ?_) | (with_reducible refine below_sc ?_ ?_ _; · (first | (simp; done) | (simp; omega) | omega))))⟩
    all_goals (simp [nameB, *]; try omega)
  · have he : s = ⟨#[]⟩ := by
      cases s with | mk d => cases d with | mk l => cases l with
        | nil => rfl
        | cons a t => exact absurd (show 0 < (ByteArray.mk ⟨a :: t⟩).size by simp [ByteArray.size]) h0
    subst he
    go_enter Tryd.func26, Tryd.ntmps26
    go_wp2
    all_goals go_ret
    all_goals exact ⟨rfl, (by repeat (first | (with_reducible exact Below.refl _ _) | (with_reducible refine below_al ?_ _) | (with_reducible refine below_drewN ?_ _) | (with_reducible refine Below.drew ?_) | (with_reducible refine below_via (by assumption) ?_) | (with_reducible refine below_sc ?_ ?_ _; · (first | (simp; done) | (simp; omega) | omega))))⟩
end Go.Proofs.YtlaafpbhhnehgaaDoor
end
section
namespace Go.Proofs.YtlaafpbhhnehgaaDoor
set_option linter.unusedVariables false
set_option linter.unusedSimpArgs false
open Go.RowKit Go.Lib
/-- a letter that no bare name has -/
def odd2 (r : Nat) : Bool := !isInn ((r : Int) % 256) || (decide (65 ≤ (r : Int)) && decide ((r : Int) ≤ 90))
set_option maxRecDepth 100000 in
theorem odd_c (r : Nat) (w : World) (hr : r ≤ 1114111) : Calls Tryd.prog 27 #[.int .i32 (r : Int)] w fun e w' => e = .returned (.bool (odd2 r)) ∧ Below w.heap.size w w' := by
  go_enter Tryd.func27, Tryd.ntmps27
  go_wp2_with (go_at_call 28; refine (isInner_c ((r : Int) % 256) (by omega) (by omega) _).mono ?_; rintro e w' ⟨rfl, hb⟩)
  all_goals go_ret
  all_goals refine ⟨?_, (by repeat (first | (with_reducible exact Below.refl _ _) | (with_reducible refine below_al ?_ _) | (with_reducible refine below_drewN ?_ _) | (with_reducible refine Below.drew ?_) | (with_reducible refine below_via (by assumption) ?_) | (with_reducible refine below_sc ?_ ?_ _; · (first | (simp; done) | (simp; omega) | omega))))⟩
  all_goals (simp [odd2, *]; try omega)
end Go.Proofs.YtlaafpbhhnehgaaDoor
end
section
namespace Go.Proofs.YtlaafpbhhnehgaaDoor
set_option linter.unusedVariables false
set_option linter.unusedSimpArgs false
open Go.RowKit Go.Lib
theorem quote_eq (q : UInt8) (l : List UInt8) : ((⟨#[q]⟩ : ByteArray) ++ ⟨(dbl q l).toArray⟩ ++ ⟨#[q]⟩) = ⟨(quoteL q l).toArray⟩ := by
  apply ByteArray.ext; simp [quoteL]
set_option maxRecDepth 100000 in
theorem quoted_34 (s : ByteArray) (w : World) (ht : Tab w) (hs : s.size < 4294967281) :
    Calls Tryd.prog 32 #[.string s, .int .u8 34] w fun e w' => e = .returned (.string ⟨(quoteL 34 s.data.toList).toArray⟩) ∧ Below w.heap.size w w' := by
  obtain ⟨m, hm⟩ := ht.len
  have hl : s.size + Lib.countB s ⟨#[34]⟩ * (⟨#[34, 34]⟩ : ByteArray).size ≤ 140737488355328 := by
    have h1 := Lib.countB_le ⟨#[34]⟩ (by decide) s.size s (Nat.le_refl _)
    have h2 : (⟨#[34, 34]⟩ : ByteArray).size = 2 := rfl
    rw [h2]; omega
  have e34 : Utf8.encode 34 = ⟨#[34]⟩ := by decide +kernel
  have z34 : (⟨#[34]⟩ : ByteArray).size = 1 := rfl
  have hd := dbl_len 34 s.data.toList
  rw [← Lib.size_eq] at hd
  have hr := replaceAll_dbl 34 s.data.toList
  go_enter Tryd.func32, Tryd.ntmps32
  go_wp2_with (go_at_call 61; refine (Tryd.strings_ReplaceAll s ⟨#[34]⟩ ⟨#[34, 34]⟩ m _ hs hm (by decide) hl).mono ?_; rintro e w' ⟨rfl, hb⟩; rw [replaceAll_dbl])
  go_ret
  refine ⟨?_, (by repeat (first | (with_reducible exact Below.refl _ _) | (with_reducible refine below_al ?_ _) | (with_reducible refine below_drewN ?_ _) | (with_reducible refine Below.drew ?_) | (with_reducible refine below_via (by assumption) ?_) | (with_reducible refine below_sc ?_ ?_ _; · (first | (simp; done) | (simp; omega) | omega))))⟩
  exact congrArg (fun s => Ending.returned (Value.string s)) (quote_eq _ _)
set_option maxRecDepth 100000 in
theorem quoted_39 (s : ByteArray) (w : World) (ht : Tab w) (hs : s.size < 4294967281) :
    Calls Tryd.prog 32 #[.string s, .int .u8 39] w fun e w' => e = .returned (.string ⟨(quoteL 39 s.data.toList).toArray⟩) ∧ Below w.heap.size w w' := by
  obtain ⟨m, hm⟩ := ht.len
  have hl : s.size + Lib.countB s ⟨#[39]⟩ * (⟨#[39, 39]⟩ : ByteArray).size ≤ 140737488355328 := by
    have h1 := Lib.countB_le ⟨#[39]⟩ (by decide) s.size s (Nat.le_refl _)
    have h2 : (⟨#[39, 39]⟩ : ByteArray).size = 2 := rfl
    rw [h2]; omega
  have e39 : Utf8.encode 39 = ⟨#[39]⟩ := by decide +kernel
  have z39 : (⟨#[39]⟩ : ByteArray).size = 1 := rfl
  have hd := dbl_len 39 s.data.toList
  rw [← Lib.size_eq] at hd
  have hr := replaceAll_dbl 39 s.data.toList
  go_enter Tryd.func32, Tryd.ntmps32
  go_wp2_with (go_at_call 61; refine (Tryd.strings_ReplaceAll s ⟨#[39]⟩ ⟨#[39, 39]⟩ m _ hs hm (by decide) hl).mono ?_; rintro e w' ⟨rfl, hb⟩; rw [replaceAll_dbl])
  go_ret
  refine ⟨?_, (by repeat (first | (with_reducible exact Below.refl _ _) | (with_reducible refine below_al ?_ _) | (with_reducible refine below_drewN ?_ _) | (with_reducible refine Below.drew ?_) | (with_reducible refine below_via (by assumption) ?_) | (with_reducible refine below_sc ?_ ?_ _; · (first | (simp; done) | (simp; omega) | omega))))⟩
  exact congrArg (fun s => Ending.returned (Value.string s)) (quote_eq _ _)
end Go.Proofs.YtlaafpbhhnehgaaDoor
end
section
namespace Go.Proofs.YtlaafpbhhnehgaaDoor
set_option linter.unusedVariables false
set_option linter.unusedSimpArgs false
open Go.RowKit Go.Lib
/-- all but block b is as it was -/
structure Fr (b : Nat) (w w' : World) : Prop where
  os : w'.os = w.os
  tape : w'.tape = w.tape
  output : w'.output = w.output
  size : w.heap.size ≤ w'.heap.size
  block : ∀ k, k < w.heap.size → k ≠ b → w'.heap[k]? = w.heap[k]?
theorem Fr.refl (b : Nat) (w : World) : Fr b w w := ⟨rfl, rfl, rfl, Nat.le_refl _, fun _ _ _ => rfl⟩
theorem Fr.trans {b : Nat} {w w1 w2 : World} (h : Fr b w w1) (k : Fr b w1 w2) : Fr b w w2 :=
  ⟨k.os.trans h.os, k.tape.trans h.tape, k.output.trans h.output, Nat.le_trans h.size k.size, fun i hi hb => (k.block i (Nat.lt_of_lt_of_le hi h.size) hb).trans (h.block i hi hb)⟩
theorem Fr.of {b : Nat} {w w' : World} (h : Below w.heap.size w w') : Fr b w w' := ⟨h.os, h.tape, h.output, h.size, fun i hi _ => h.block i hi⟩
theorem Fr.add {b : Nat} {w w1 w2 : World} (h : Fr b w w1) (k : Below w1.heap.size w1 w2) : Fr b w w2 := h.trans (.of k)
theorem Fr.set {b : Nat} {w w1 : World} (h : Fr b w w1) (o : Nat) (u : Value) : Fr b w (w1.setCell ⟨b, o, none⟩ u) :=
  h.trans ⟨rfl, rfl, rfl, by simp, fun i _ hb => Below.heap_setCell w1 ⟨b, o, none⟩ u i hb⟩
theorem Fr.below {b B : Nat} {w0 w w' : World} (h : Fr b w w') (hb : Below B w0 w) (hB : B ≤ b) (hs : B ≤ w.heap.size) : Below B w0 w' :=
  ⟨h.os.trans hb.os, h.tape.trans hb.tape, h.output.trans hb.output, Nat.le_trans hb.size h.size, fun i hi => (h.block i (by omega) (by omega)).trans (hb.block i hi)⟩
theorem Sc.below {w w' : World} {b : Nat} {s : ByteArray} {p : Int} (h : Sc w b s p) (hb : Below w.heap.size w w') : Sc w' b s p := by
  have l := World.block_lt_of_cell? w _ h.c0
  simp only at l
  obtain ⟨hc, hf⟩ := bcell hb
  exact ⟨by rw [hc _ _ l]; exact h.c0, by rw [hc _ _ l]; exact h.c1, by rw [hf _ _ l]; exact h.f1⟩
theorem Sc.lt {w : World} {b : Nat} {s : ByteArray} {p : Int} (h : Sc w b s p) : b < w.heap.size := World.block_lt_of_cell? w _ h.c0
theorem Sc.set {w : World} {b : Nat} {s : ByteArray} {p : Int} (h : Sc w b s p) (q : Int) : Sc (w.setCell ⟨b, 1, none⟩ (.int .i64 q)) b s q := by
  obtain ⟨c0, c1, f1⟩ := h
  exact ⟨by simp [go_sem, c0, c1], by simp [go_sem, c0, c1], by simp [go_sem, f1]⟩
theorem lays_trim : (Tryd.prog.info? 89).map (fun i => (i.zero, i.size)) = some (some (.agg (Array.replicate 256 (.bool false))), 256) := by kernel_rfl
theorem dropB_list (s : ByteArray) (n : Nat) : (dropB s n).data.toList = s.data.toList.drop n := by
  unfold dropB
  rw [Lib.extract_data]
  rw [List.take_of_length_le (by simp)]; rfl
theorem dropB_mk (s : ByteArray) (n : Nat) : (⟨(s.data.toList.drop n).toArray⟩ : ByteArray) = dropB s n := by
  apply ByteArray.ext; rw [← dropB_list]
theorem dropB_size (s : ByteArray) (n : Nat) : (dropB s n).size = s.size - n := by
  rw [Lib.size_eq, dropB_list, List.length_drop, Lib.size_eq]
theorem trimB (s : ByteArray) (p q : Nat) (hq : (s.data.toList.drop p).dropWhile sp = s.data.toList.drop q) (w : World) :
    Calls Tryd.prog 41 #[.string (dropB s p), .string ⟨#[9, 10, 13, 32]⟩] w fun e w' => e = .returned (.string (dropB s q)) ∧ Below w.heap.size w w' := by
  refine (Any.strings_TrimLeft_laid Tryd.lays161 lays_trim (dropB s p) ⟨#[9, 10, 13, 32]⟩ w (by decide) (ascii_of_all (by decide))).mono ?_
  rintro e w' ⟨rfl, hb⟩
  refine ⟨?_, hb⟩
  rw [dropB_list, trim_sp, hq, dropB_mk]
theorem hpB (s : ByteArray) (q : Nat) (pre : ByteArray) (r : Bool) (h : hasPrefix (s.data.toList.drop q) pre.data.toList = r) (w : World) :
    Calls Tryd.prog 42 #[.string (dropB s q), .string pre] w fun e w' => e = .returned (.bool r) ∧ w' = w := by
  refine (Tryd.strings_HasPrefix (dropB s q) pre w).mono ?_
  rintro e w' ⟨rfl, rfl⟩
  rw [dropB_list, h]; exact ⟨rfl, rfl⟩
theorem cutB (s : ByteArray) (q : Nat) (hs : s.size ≤ 65536) (w0 w : World) (ht : Tab w0) (hb : Below w0.heap.size w0 w) (h1 : 1 < w0.heap.size) :
    Calls Tryd.prog 43 #[.string (dropB s q), .string ⟨#[10]⟩] w fun e w' => (∃ t u v, t.size = (Lib.cut (s.data.toList.drop q) [10]).1.length ∧ e = .returned (.tuple #[.string t, .string u, .bool v])) ∧ Below w.heap.size w w' := by
  obtain ⟨m, hm⟩ := ht.len
  have hc := hb.cell (p := ⟨1, 0, none⟩) h1
  refine (Tryd.strings_Cut (dropB s q) ⟨#[10]⟩ m w (by rw [dropB_size]; omega) (by rw [hc]; exact hm)).mono ?_
  rintro e w' ⟨rfl, n, rfl⟩
  rw [dropB_list]
  exact ⟨⟨_, _, _, by simp [Lib.size_eq], rfl⟩, ⟨rfl, rfl, rfl, Nat.le_refl _, fun _ _ => rfl⟩⟩
theorem indexB (s : ByteArray) (q : Nat) (hs : s.size ≤ 65536) (w0 w : World) (ht : Tab w0) (hb : Below w0.heap.size w0 w) (h1 : 1 < w0.heap.size) (u : ByteArray) (hu : u = dropB s (q + 2 : Nat)) (i : Int) (hi : index ((s.data.toList.drop q).drop 2) [42, 47] = i) :
    Calls Tryd.prog 44 #[.string u, .string ⟨#[42, 47]⟩] w fun e w' => e = .returned (.int .i64 i) ∧ w' = w := by
  subst hu
  obtain ⟨m, hm⟩ := ht.len
  have hc := hb.cell (p := ⟨1, 0, none⟩) h1
  refine (Tryd.strings_Index (dropB s (q + 2 : Nat)) ⟨#[42, 47]⟩ m w (by rw [dropB_size]; omega) (by rw [hc]; exact hm)).mono ?_
  rintro e w' ⟨rfl, rfl⟩
  rw [dropB_list, ← List.drop_drop, hi]
  exact ⟨rfl, rfl⟩
theorem Tab.one {w : World} (h : Tab w) : 1 < w.heap.size := by
  obtain ⟨m, hm⟩ := h.len
  exact World.block_lt_of_cell? w _ hm
theorem dropB_drop2 (s : ByteArray) (q : Nat) : (dropB s q).extract 2 (dropB s q).size = dropB s (q + 2 : Nat) := by
  apply ByteArray.ext
  have e1 : ((dropB s q).extract 2 (dropB s q).size).data.toList = (dropB s (q + 2 : Nat)).data.toList := by
    rw [Lib.extract_data, dropB_list, dropB_list, List.drop_drop, List.take_of_length_le]
    rw [List.length_drop, dropB_size, ← Lib.size_eq]; omega
  exact Array.toList_inj.1 e1
end Go.Proofs.YtlaafpbhhnehgaaDoor
end
section
namespace Go.Proofs.YtlaafpbhhnehgaaDoor
set_option linter.unusedVariables false
set_option linter.unusedSimpArgs false
open Go.RowKit Go.Lib
theorem hidF {p : Prop} (h : p) : Hid p := h
def atOf (w : World) (b : Nat) : Nat := match w.cell? ⟨b, 1, none⟩ with | some (.int _ n) => n.toNat | _ => 0
theorem Sc.at_ {w : World} {b : Nat} {s : ByteArray} {p : Nat} (h : Sc w b s p) : atOf w b = p := by unfold atOf; rw [h.c1]; simp
/-- what skip leaves -/
def SkipPost (b : Nat) (s : ByteArray) (l : List UInt8) (w : World) (e : Ending) (w' : World) : Prop :=
  ∃ q : Nat, q ≤ s.size ∧ Fr b w w' ∧ Sc w' b s q ∧ ((skipL 0 [] l = (s.data.toList.drop q, true) ∧ e = .returned (.tuple #[])) ∨ (skipL 0 [] l = (s.data.toList.drop q, false) ∧ e = .panicked (fl q)))
set_option maxRecDepth 100000 in
set_option maxHeartbeats 20000000 in
theorem skip_c (b : Nat) (s : ByteArray) (p : Nat) (w0 w : World) (ht : Tab w0) (hb0 : Below w0.heap.size w0 w) (hB : w0.heap.size ≤ b) (hs : s.size ≤ 65536) (h : Sc w b s p) (hp : p ≤ s.size) :
    Calls Tryd.prog 20 #[.pointer (some ⟨b, 0, none⟩)] w (SkipPost b s (s.data.toList.drop p) w) := by
  have hHT := hidF ht
  have hHB := hidF hb0
  clear ht hb0
  go_enter Tryd.func20, Tryd.ntmps20
  go_wp2
  go_loopw [] (fun wr => ∃ r : Nat, r ≤ s.size ∧ Fr b w wr ∧ Sc wr b s r ∧ skipL 0 [] (s.data.toList.drop p) = skipL 0 [] (s.data.toList.drop r)) (fun wr => s.size - atOf wr b)
  case atStart => exact ⟨p, hp, Fr.refl _ _, h, rfl⟩
  case round =>
    obtain ⟨r, hr, HF, HS, he⟩ := hrel
    obtain ⟨n, hn, hd⟩ := drop_trim (s.data.toList.drop r)
    rw [List.drop_drop] at hd
    obtain ⟨q, rfl⟩ : ∃ q, q = r + n := ⟨_, rfl⟩
    generalize hq : r + n = q at hd
    have hqs : q ≤ s.size := by
      rw [List.length_drop, ← Lib.size_eq] at hn; omega
    rw [skip_trim (s.data.toList.drop r), hd] at he
    have hsz : (s.size : Int) - ((dropB s q).size : Int) = q := by rw [dropB_size]; omega
    have hwr : IntKind.i64.wrap (q : Int) = q := by rw [IntKind.wrap_i64]; omega
    have hSC := hidF HS
    obtain ⟨c0, c1, f1⟩ := HS
    have hlt := World.block_lt_of_cell? wr _ c0
    simp only at hlt
    go_wp2_with fail
    have h1s := hHT.out.one
    have hsp : ∀ c t, s.data.toList.drop q = c :: t → sp c = false := fun c t hh => trim_head _ c t (hd.trans hh)
    go_region_with (first | (go_at_call 21; (fail_if_success (have := w1)); (with_reducible refine (rest_c b s r wr.drew (hSC.out.below (Below.refl _ _).drew) (by omega) (by omega)).mono ?_); rintro e w1 ⟨rfl, hb1⟩; have S1 := (hSC.out.below (Below.refl _ _).drew).below hb1; have hS1 := hidF S1; obtain ⟨c10, c11, f11⟩ := S1) | (go_at_call 41; (with_reducible refine (trimB s r q hd _).mono ?_); rintro e w2 ⟨rfl, hb2⟩; have S2 := hS1.out.below hb2; have hS2 := hidF (S2.set q); obtain ⟨c20, c21, f21⟩ := S2))
    all_goals
      have SW := hS2.out
      have FW : Fr b w (w2.setCell ⟨b, 1, none⟩ (.int .i64 q)) := (((HF.add (Below.refl _ _).drew).add hb1).add hb2).set 1 _
      clear hb1 hb2 hS1 hS2 c10 c11 f11 c20 c21 f21
      generalize w2.setCell ⟨b, 1, none⟩ (.int .i64 q) = W at *
      clear w2 w1
      have hSW := hidF SW
      obtain ⟨d0, d1, g1⟩ := SW
      cases hA : hasPrefix (s.data.toList.drop q) [45, 45]
      case' false => cases hC : hasPrefix (s.data.toList.drop q) [47, 42]
      case' false.true =>
        obtain ⟨hm1, hm2⟩ := skip_rem2 _ hC
        obtain ⟨ix, hix⟩ : ∃ i, index ((s.data.toList.drop q).drop 2) [42, 47] = i := ⟨_, rfl⟩
        have hlen : 2 ≤ s.size - q := by
          obtain ⟨t, ht⟩ := pre2 hC
          have := congrArg List.length ht
          rw [List.length_drop, ← Lib.size_eq] at this; simp at this; omega
        have hds : (dropB s q).size = s.size - q := dropB_size s q
        have hex : (dropB s q).extract 2 (s.size - q) = dropB s (q + 2 : Nat) := by have := dropB_drop2 s q; rwa [hds] at this
        have hq2 : Hid (dropB s ((q : Int) + 2) = dropB s (q + 2 : Nat)) := hidF (congrArg (dropB s) (by omega))
        by_cases hneg : ix = -1
        · have hi0 : (decide (0 ≤ ix)) = false := by rw [hneg]; rfl
          go_wp2_with (first | (go_at_call 21; (fail_if_success (have := w3)); (with_reducible refine (rest_c b s q W hSW.out (by omega) (by omega)).mono ?_); rintro e w3 ⟨rfl, hb3⟩; have S3 := hSW.out.below hb3; have hS3 := hidF S3; have F3 := hidF (FW.add hb3); have B3 := hidF ((FW.add hb3).below hHB.out hB hHB.out.size); obtain ⟨c30, c31, f31⟩ := S3) | (go_at_call 42; (with_reducible refine (hpB s q ⟨#[45, 45]⟩ _ hA w3).mono ?_); rintro e w' ⟨rfl, hw⟩; replace hw := hw.symm; subst hw) | (go_at_call 42; (with_reducible refine (hpB s q ⟨#[47, 42]⟩ _ hC w3).mono ?_); rintro e w' ⟨rfl, hw⟩; replace hw := hw.symm; subst hw) | (go_at_call 44; (with_reducible refine (indexB s q hs w0 w3 hHT.out B3.out h1s _ hq2.out ix hix).mono ?_); rintro e w' ⟨rfl, hw⟩; replace hw := hw.symm; subst hw) | (go_at_call 22; (with_reducible refine (must_f b s q w3 hS3.out).mono ?_); rintro e w5 ⟨rfl, hb5⟩))
          exact ⟨rfl, q, hqs, F3.out.add hb5, hS3.out.below hb5, .inr ⟨by rw [he, hm1 (hix.trans hneg)], rfl⟩⟩
        · obtain ⟨n1, rfl⟩ : ∃ n1 : Nat, ix = n1 := ⟨ix.toNat, by have := index_ge ((s.data.toList.drop q).drop 2) [42, 47]; omega⟩
          obtain ⟨hl1, hl2⟩ := hm2 n1 hix
          rw [List.length_drop, ← Lib.size_eq] at hl2
          go_wp2_with (first | (go_at_call 21; (fail_if_success (have := w3)); (with_reducible refine (rest_c b s q W hSW.out (by omega) (by omega)).mono ?_); rintro e w3 ⟨rfl, hb3⟩; have S3 := hSW.out.below hb3; have hS3 := hidF S3; have F3 := hidF (FW.add hb3); have B3 := hidF ((FW.add hb3).below hHB.out hB hHB.out.size); obtain ⟨c30, c31, f31⟩ := S3) | (go_at_call 42; (with_reducible refine (hpB s q ⟨#[45, 45]⟩ _ hA w3).mono ?_); rintro e w' ⟨rfl, hw⟩; replace hw := hw.symm; subst hw) | (go_at_call 42; (with_reducible refine (hpB s q ⟨#[47, 42]⟩ _ hC w3).mono ?_); rintro e w' ⟨rfl, hw⟩; replace hw := hw.symm; subst hw) | (go_at_call 44; (with_reducible refine (indexB s q hs w0 w3 hHT.out B3.out h1s _ hq2.out _ hix).mono ?_); rintro e w' ⟨rfl, hw⟩; replace hw := hw.symm; subst hw) | (go_at_call 22; (with_reducible refine (must_t b w3).mono ?_); rintro e w5 ⟨rfl, hb5⟩; have S5 := hS3.out.below hb5; have hS5 := hidF S5; have F5 := hidF (F3.out.add hb5); obtain ⟨c50, c51, f51⟩ := S5))
          have ew : (q : Int) + ((n1 : Int) + 4) = ((q + (n1 + 4) : Nat) : Int) := by omega
          have S6 := hS5.out.set ((q + (n1 + 4) : Nat) : Int)
          go_roundw
          case rel =>
            rw [ew]
            exact ⟨q + (n1 + 4), by omega, F5.out.set 1 _, S6, by rw [he, hl1, List.drop_drop]⟩
          case measure =>
            rw [ew, S6.at_, hSC.out.at_]; omega
      case' true =>
        obtain ⟨hl1, hl2, hl3⟩ := skip_line _ hA
        rw [List.length_drop, ← Lib.size_eq] at hl2
        go_wp2_with (first | (go_at_call 21; (fail_if_success (have := w3)); (with_reducible refine (rest_c b s q W hSW.out (by omega) (by omega)).mono ?_); rintro e w3 ⟨rfl, hb3⟩; have S3 := hSW.out.below hb3; have hS3 := hidF S3; have F3 := hidF (FW.add hb3); have B3 := hidF ((FW.add hb3).below hHB.out hB hHB.out.size); obtain ⟨c30, c31, f31⟩ := S3) | (go_at_call 42; (with_reducible refine (hpB s q ⟨#[45, 45]⟩ _ hA w3).mono ?_); rintro e w' ⟨rfl, hw⟩; replace hw := hw.symm; subst hw) | (go_at_call 43; (with_reducible refine (cutB s q hs w0 w3 hHT.out B3.out h1s).mono ?_); rintro e w4 ⟨⟨lt, lu, lv, hlt4, rfl⟩, hb4⟩; have S4 := hS3.out.below hb4; have hS4 := hidF S4; have F4 := hidF (F3.out.add hb4); obtain ⟨c40, c41, f41⟩ := S4))
        generalize (Lib.cut (s.data.toList.drop q) [10]).1.length = n1 at *
        have ew : (q : Int) + (n1 : Int) = ((q + n1 : Nat) : Int) := by omega
        have S5 := hS4.out.set ((q + n1 : Nat) : Int)
        go_roundw
        case rel =>
          rw [ew]
          exact ⟨q + n1, by omega, F4.out.set 1 _, S5, by rw [he, hl1, List.drop_drop]⟩
        case measure =>
          rw [ew, S5.at_, hSC.out.at_]; omega
      case' false =>
        go_wp2_with (first | (go_at_call 21; (fail_if_success (have := w3)); (with_reducible refine (rest_c b s q W hSW.out (by omega) (by omega)).mono ?_); rintro e w3 ⟨rfl, hb3⟩; have S3 := hSW.out.below hb3; have hS3 := hidF S3; have F3 := hidF (FW.add hb3); have B3 := hidF ((FW.add hb3).below hHB.out hB hHB.out.size); obtain ⟨c30, c31, f31⟩ := S3) | (go_at_call 42; (with_reducible refine (hpB s q ⟨#[45, 45]⟩ _ hA w3).mono ?_); rintro e w' ⟨rfl, hw⟩; replace hw := hw.symm; subst hw) | (go_at_call 42; (with_reducible refine (hpB s q ⟨#[47, 42]⟩ _ hC w3).mono ?_); rintro e w' ⟨rfl, hw⟩; replace hw := hw.symm; subst hw))
        go_end0
        exact ⟨q, hqs, F3.out, hS3.out, .inl ⟨by rw [he, skip_end _ hsp hA hC], rfl⟩⟩
end Go.Proofs.YtlaafpbhhnehgaaDoor
end
section
namespace Go.Proofs.YtlaafpbhhnehgaaDoor
set_option linter.unusedVariables false
set_option linter.unusedSimpArgs false
open Go.RowKit Go.Proofs.YtlaafpbhhnehgaaDoorW.PrintWords Go.Proofs.YtlaafpbhhnehgaaDoorW.PrintLast PLB
/-- whether a text is a word of the language -/
def isWd (l : List UInt8) : Bool := wordsL.contains l
def wd (i : Nat) : List UInt8 := wordsL.getD i []
theorem words_n : wordsL.length = 52 := by decide +kernel
theorem wd_all : ∀ i : Fin 52, ∀ j : Fin 52, i.1 < j.1 → Op.bytesLess (wd i.1) (wd j.1) = true := by decide +kernel
theorem wd_lt (i j : Nat) (hi : i < 52) (hj : j < 52) (hij : i < j) : wd i < wd j := by
  have h : Op.bytesLess (wd i) (wd j) = true := wd_all ⟨i, hi⟩ ⟨j, hj⟩ hij
  rw [bytesLess_eq] at h
  exact of_decide_eq_true h
theorem rd_wd (i : Nat) (h : i < 52) : (rdOf ByteArray.empty wordsB (i : Int)).toList = wd i := by
  have hl : i < wordsL.length := by rw [words_n]; exact h
  unfold rdOf wordsB wd
  simp [ByteArray.toList_eq, hl]
theorem mem_wd (l : List UInt8) : isWd l = true ↔ ∃ i, i < 52 ∧ wd i = l := by
  unfold isWd wd
  rw [List.contains_iff_mem, List.mem_iff_getElem]
  constructor
  · rintro ⟨i, hi, rfl⟩; exact ⟨i, by rw [words_n] at hi; exact hi, by simp [hi]⟩
  · rintro ⟨i, hi, rfl⟩
    have hl : i < wordsL.length := by rw [words_n]; exact hi
    exact ⟨i, hl, by simp [hl]⟩
theorem less_ev (a b : ByteArray) : cmp_Less_string.f a b = some (Op.bytesLess a.toList b.toList) := by
  simp [cmp_Less_string.f, cmp_isNaN_string.f]
theorem bs_ev (s : ByteArray) : ∀ (d lo hi : Nat), hi - lo ≤ d → lo ≤ hi → hi ≤ 52 → (∀ i, i < lo → wd i < s.toList) → (∀ i, hi ≤ i → i < 52 → ¬ wd i < s.toList) →
    ∃ r : Int, Ev (fun k => slices_BinarySearch_string_string.l0 k wordsB s 52 (lo : Int) (hi : Int)) (r, isWd s.toList) := by
  intro d
  have hlen : (wordsB.length : Int) = 52 := by rw [wordsB_len, words_n]; rfl
  induction d with
  | zero =>
    intro lo hi h1 h2 h3 hA hB
    have he : hi = lo := by omega
    subst he
    have hnot : ∀ i, i < hi → wd i ≠ s.toList := fun i hi' e => by have := hA i hi'; rw [e] at this; exact absurd this (List.lt_irrefl _)
    by_cases hlo : hi < 52
    · by_cases heq : wd hi = s.toList
      · refine ⟨hi, ?_⟩
        have hw : isWd s.toList = true := (mem_wd _).2 ⟨hi, hlo, heq⟩
        rw [hw]
        refine Ev.step (f := fun _ => some ((hi : Int), true)) (fun k => ?_) (Ev.now _)
        rw [slices_BinarySearch_string_string.l0, if_neg (by omega), if_pos (by omega), if_pos (by omega), hlen, if_pos (by omega), rd_wd hi hlo, if_pos heq]
      · refine ⟨hi, ?_⟩
        have hw : isWd s.toList = false := by
          rw [Bool.eq_false_iff]; intro hc
          obtain ⟨i, hi1, hi2⟩ := (mem_wd _).1 hc
          by_cases hlt : i < hi
          · exact hnot i hlt hi2
          · by_cases hie : i = hi
            · subst hie; exact heq hi2
            · have := wd_lt hi i hlo hi1 (by omega)
              rw [hi2] at this
              exact hB hi (Nat.le_refl _) hlo this
        rw [hw]
        refine Ev.step (f := fun _ => some ((hi : Int), false)) (fun k => ?_) (Ev.now _)
        rw [slices_BinarySearch_string_string.l0, if_neg (by omega), if_pos (by omega), if_pos (by omega), hlen, if_pos (by omega), rd_wd hi hlo, if_neg heq]
        simp [slices_isNaN_string.f]
    · refine ⟨hi, ?_⟩
      have hw : isWd s.toList = false := by
        rw [Bool.eq_false_iff]; intro hc
        obtain ⟨i, hi1, hi2⟩ := (mem_wd _).1 hc
        exact hnot i (by omega) hi2
      rw [hw]
      refine Ev.step (f := fun _ => some ((hi : Int), false)) (fun k => ?_) (Ev.now _)
      rw [slices_BinarySearch_string_string.l0, if_neg (by omega), if_neg (by omega)]
  | succ d ih =>
    intro lo hi h1 h2 h3 hA hB
    by_cases hlt : lo < hi
    · obtain ⟨m, hm⟩ : ∃ m, m = (lo + hi) / 2 := ⟨_, rfl⟩
      have hm1 : lo ≤ m := by omega
      have hm2 : m < hi := by omega
      have hm3 : m < 52 := by omega
      have em : wrap64 ((IntKind.u64.wrap (wrap64 ((lo : Int) + (hi : Int)))) / 2) = (m : Int) := by
        have e1 : wrap64 ((lo : Int) + (hi : Int)) = (lo : Int) + hi := by unfold wrap64; omega
        have e2 : IntKind.u64.wrap ((lo : Int) + hi) = (lo : Int) + hi := by rw [IntKind.wrap_u64]; omega
        have e3 : ((lo : Int) + hi) / 2 = (m : Int) := by omega
        rw [e1, e2, e3]; unfold wrap64; omega
      have c1 : (lo : Int) < (hi : Int) := by omega
      have c2 : 0 ≤ (m : Int) := by omega
      have c3 : (m : Int) < 52 := by omega
      have em1 : wrap64 ((m : Int) + 1) = ((m + 1 : Nat) : Int) := by unfold wrap64; omega
      by_cases hl : wd m < s.toList
      · obtain ⟨r, hr⟩ := ih (m + 1) hi (by omega) (by omega) h3 (fun i hi' => by
          by_cases h : i < m
          · exact List.lt_trans (wd_lt i m (by omega) (by omega) h) hl
          · have : i = m := by omega
            subst this; exact hl) hB
        refine ⟨r, Ev.step (fun k => ?_) hr⟩
        rw [slices_BinarySearch_string_string.l0, if_pos c1, em, if_pos c2, hlen, if_pos c3, less_ev, rd_wd m hm3, bytesLess_eq, decide_eq_true hl, Option.bind_some, if_pos rfl, em1]
      · obtain ⟨r, hr⟩ := ih lo m (by omega) hm1 (by omega) hA (fun i hi1 hi2 hc => by
          by_cases h : i = m
          · subst h; exact hl hc
          · exact hl (List.lt_trans (wd_lt m i (by omega) hi2 (by omega)) hc))
        refine ⟨r, Ev.step (fun k => ?_) hr⟩
        rw [slices_BinarySearch_string_string.l0, if_pos c1, em, if_pos c2, hlen, if_pos c3, less_ev, rd_wd m hm3, bytesLess_eq, decide_eq_false hl, Option.bind_some, if_neg Bool.false_ne_true]
    · exact ih lo hi (by omega) h2 h3 hA hB
theorem search_ev (s : ByteArray) : ∃ k i, slices_BinarySearch_string_string.f k wordsB s = some (i, isWd s.data.toList) := by
  obtain ⟨r, hr⟩ := bs_ev s 52 0 52 (by omega) (by omega) (by omega) (fun i h => absurd h (by omega)) (fun i h h' => absurd h' (by omega))
  obtain ⟨k, hk⟩ := hr.rounds
  refine ⟨k, r, ?_⟩
  have hlen : (wordsB.length : Int) = 52 := by rw [wordsB_len, words_n]; rfl
  rw [slices_BinarySearch_string_string.f, hlen, ← ByteArray.toList_eq]
  exact hk
theorem isWord_k (s : ByteArray) (w : World) (ht : Tab w) :
    Calls Tryd.prog 15 #[.string s] w fun e w' => e = .returned (.bool (isWd s.data.toList)) ∧ Below w.heap.size w w' := by
  obtain ⟨k, i, h⟩ := search_ev s
  exact isWord_c s w ht k i _ h
end Go.Proofs.YtlaafpbhhnehgaaDoor
end
section
namespace Go.Proofs.YtlaafpbhhnehgaaDoor
set_option linter.unusedVariables false
set_option linter.unusedSimpArgs false
open Go.RowKit
theorem below_drewN {B : Nat} {a w : World} (h : Below B a w) (n : Nat) : Below B a (w.drewN n) := h.trans ⟨rfl, rfl, rfl, Nat.le_refl _, fun _ _ => rfl⟩
theorem Tab.below {w w' : World} (h : Tab w) (hb : Below w.heap.size w w') : Tab w' := by
  obtain ⟨m, hm⟩ := h.len
  exact ⟨Lib.tabBelow_of_tabIs h.asc w' hb, m, by rw [hb.cell (p := ⟨1, 0, none⟩) h.one]; exact hm⟩
/-- what a way of token answers: kind, text, length; none: it gives up here -/
def OutT (p : Int) (r : Option (Int × List UInt8 × Nat)) (w : World) (e : Ending) (w' : World) : Prop :=
  (match r with
    | some (k, t, n) => e = .returned (.tuple #[.int .i64 k, .string ⟨t.toArray⟩, .int .i64 n])
    | none => e = .panicked (fl p)) ∧ Below w.heap.size w w'
theorem runL_le (p : Int → Bool) : ∀ l, runL p l ≤ l.length
  | [] => Nat.le_refl _
  | c :: t => by
    have := runL_le p t
    unfold runL; split <;> simp <;> omega
theorem runL_all (p : Int → Bool) : ∀ (l : List UInt8) (b : UInt8), b ∈ l.take (runL p l) → p b.toNat = true
  | [], b, h => by simp [runL] at h
  | c :: t, b, h => by
    by_cases hc : p c.toNat = true
    · rw [runL, if_pos hc, List.take_succ_cons] at h
      rcases List.mem_cons.1 h with rfl | h
      · exact hc
      · exact runL_all p t b h
    · rw [runL, if_neg hc] at h; simp at h
/-- a name or a word -/
def wordT (l : List UInt8) : Option (Int × List UInt8 × Nat) :=
  if isWd (Lib.toUpperA (l.take (runL isInn l))) then some (2, Lib.toUpperA (l.take (runL isInn l)), runL isInn l)
  else if runL isInn l ≤ 32 then some (1, Lib.toLowerA (l.take (runL isInn l)), runL isInn l) else none
theorem inner_pred : BytePred 28 isInn := fun c W h0 h1 => isInner_c c h0 h1 W
theorem enter_inner : ∀ args w, (callFunc 28 args).run Tryd.prog w = .ok (.enter 28 args) w := by
  intro args w
  simp [go_sem, Tryd.func28]
theorem digit_pred : BytePred 29 isDig := fun c W _ _ => isDigit_c c W
theorem enter_digit : ∀ args w, (callFunc 29 args).run Tryd.prog w = .ok (.enter 29 args) w := by
  intro args w
  simp [go_sem, Tryd.func29]
theorem runInner_c (s : ByteArray) (n : Nat) (hn : runL isInn s.data.toList = n) (w : World) (hs : s.size ≤ 140737488355328) :
    Calls Tryd.prog 72 #[.string s, .func (.func 28) #[] #[]] w fun e w' => e = .returned (.int .i64 n) ∧ Below w.heap.size w w' := by
  subst hn; exact run_c 28 enter_inner isInn inner_pred s w hs
theorem runDigit_c (s : ByteArray) (n : Nat) (hn : runL isDig s.data.toList = n) (w : World) (hs : s.size ≤ 140737488355328) :
    Calls Tryd.prog 72 #[.string s, .func (.func 29) #[] #[]] w fun e w' => e = .returned (.int .i64 n) ∧ Below w.heap.size w w' := by
  subst hn; exact run_c 29 enter_digit isDig digit_pred s w hs
theorem upper_c (l : List UInt8) (w : World) (hs : l.length ≤ 140737488355328) (ha : ∀ (j : Nat) (b : UInt8), l[j]? = some b → b.toNat < 128) :
    Calls Tryd.prog 31 #[.string ⟨l.toArray⟩] w fun e w' => e = .returned (.string ⟨(Lib.toUpperA l).toArray⟩) ∧ Below w.heap.size w w' :=
  Tryd.strings_ToUpper_ascii ⟨l.toArray⟩ w (by rw [Lib.size_eq]; simpa using hs) (by simpa using ha)
theorem lower_c (l : List UInt8) (w : World) (hs : l.length ≤ 140737488355328) (ha : ∀ (j : Nat) (b : UInt8), l[j]? = some b → b.toNat < 128) :
    Calls Tryd.prog 73 #[.string ⟨l.toArray⟩] w fun e w' => e = .returned (.string ⟨(Lib.toLowerA l).toArray⟩) ∧ Below w.heap.size w w' :=
  Tryd.strings_ToLower_ascii ⟨l.toArray⟩ w (by rw [Lib.size_eq]; simpa using hs) (by simpa using ha)
theorem isWd_c (l : List UInt8) (r : Bool) (hr : isWd l = r) (w : World) (ht : Tab w) :
    Calls Tryd.prog 15 #[.string ⟨l.toArray⟩] w fun e w' => e = .returned (.bool r) ∧ Below w.heap.size w w' := by
  subst hr; exact isWord_k ⟨l.toArray⟩ w ht
theorem takeB (s : ByteArray) (p n : Nat) (hn : n ≤ s.size - p) : (dropB s p).extract 0 n = ⟨((s.data.toList.drop p).take n).toArray⟩ := by
  apply ByteArray.ext
  apply Array.toList_inj.1
  rw [Lib.extract_data, dropB_list]; simp
theorem inn_ascii (l : List UInt8) : ∀ (j : Nat) (b : UInt8), (l.take (runL isInn l))[j]? = some b → b.toNat < 128 := by
  intro j b hb
  have := runL_all isInn l b (List.mem_of_getElem? hb)
  simp only [isInn, isLet, isDig, Bool.or_eq_true, Bool.and_eq_true, decide_eq_true_eq, beq_iff_eq] at this
  omega
set_option maxRecDepth 100000 in
set_option maxHeartbeats 4000000 in
theorem word_c (b : Nat) (s : ByteArray) (p : Nat) (w : World) (ht : Tab w) (hs : s.size ≤ 65536) (h : Sc w b s p) (hp : p ≤ s.size) :
    Calls Tryd.prog 46 #[.pointer (some ⟨b, 0, none⟩)] w (OutT p (wordT (s.data.toList.drop p)) w) := by
  have hT := hidF ht
  have hS := hidF h
  clear ht
  have hlt := h.lt
  obtain ⟨c0, c1, f1⟩ := h
  obtain ⟨l, hl⟩ : ∃ l, s.data.toList.drop p = l := ⟨_, rfl⟩
  obtain ⟨n, hn⟩ : ∃ n, runL isInn l = n := ⟨_, rfl⟩
  have hnl : n ≤ s.size - p := by
    have := runL_le isInn l
    rw [hn, ← hl, List.length_drop, ← Lib.size_eq] at this; exact this
  have hds : (dropB s p).size = s.size - p := dropB_size s p
  have hrun : Hid (runL isInn (dropB s p).data.toList = n) := hidF (by rw [dropB_list, hl, hn])
  have htk : (dropB s p).extract 0 n = ⟨(l.take n).toArray⟩ := by rw [takeB s p n hnl, hl]
  have hasc : Hid (∀ (j : Nat) (b : UInt8), (l.take n)[j]? = some b → b.toNat < 128) := hidF (by rw [← hn]; exact inn_ascii l)
  have hsz : Hid ((l.take n).length ≤ 140737488355328) := hidF (by rw [List.length_take]; omega)
  rw [hl]
  unfold wordT
  rw [hn]
  cases hw : isWd (Lib.toUpperA (l.take n))
  all_goals
    by_cases h32 : n ≤ 32
    case' pos => have hdec : decide ((n : Int) ≤ 32) = true := decide_eq_true (by omega)
    case' neg => have hdec : decide ((n : Int) ≤ 32) = false := decide_eq_false (by omega)
    all_goals
      go_enter Tryd.func46, Tryd.ntmps46
      go_wp2_with (first | (go_at_call 21; (fail_if_success (have := w1)); ((with_reducible refine (rest_c b s p _ (hS.out.below (by repeat (first | (with_reducible exact Below.refl _ _) | (with_reducible refine below_al ?_ _) | (with_reducible refine below_drewN ?_ _) | (with_reducible refine Below.drew ?_) | (with_reducible refine below_via (by assumption) ?_) | (with_reducible refine below_sc ?_ ?_ _; · (first | (simp; done) | (simp; omega) | omega))))) (by omega) (by omega)).mono ?_); rintro e w1 ⟨rfl, hb1⟩; (try (replace hb1 := below_undrew hb1)); (try (replace hb1 := below_undrewN hb1)); obtain ⟨hc1, hf1⟩ := bcell hb1; )) | (go_at_call 72; (fail_if_success (have := w1)); ((with_reducible refine (runInner_c (dropB s p) n hrun.out _ (by omega)).mono ?_); rintro e w1 ⟨rfl, hb1⟩; (try (replace hb1 := below_undrew hb1)); (try (replace hb1 := below_undrewN hb1)); obtain ⟨hc1, hf1⟩ := bcell hb1; )) | (go_at_call 31; (fail_if_success (have := w1)); ((with_reducible refine (upper_c (l.take n) _ hsz.out hasc.out).mono ?_); rintro e w1 ⟨rfl, hb1⟩; (try (replace hb1 := below_undrew hb1)); (try (replace hb1 := below_undrewN hb1)); obtain ⟨hc1, hf1⟩ := bcell hb1; )) | (go_at_call 15; (fail_if_success (have := w1)); ((with_reducible refine (isWd_c (Lib.toUpperA (l.take n)) _ hw _ (hT.out.below (by repeat (first | (with_reducible exact Below.refl _ _) | (with_reducible refine below_al ?_ _) | (with_reducible refine below_drewN ?_ _) | (with_reducible refine Below.drew ?_) | (with_reducible refine below_via (by assumption) ?_) | (with_reducible refine below_sc ?_ ?_ _; · (first | (simp; done) | (simp; omega) | omega)))))).mono ?_); rintro e w1 ⟨rfl, hb1⟩; (try (replace hb1 := below_undrew hb1)); (try (replace hb1 := below_undrewN hb1)); obtain ⟨hc1, hf1⟩ := bcell hb1; )) | (go_at_call 73; (fail_if_success (have := w1)); ((with_reducible refine (lower_c (l.take n) _ hsz.out hasc.out).mono ?_); rintro e w1 ⟨rfl, hb1⟩; (try (replace hb1 := below_undrew hb1)); (try (replace hb1 := below_undrewN hb1)); obtain ⟨hc1, hf1⟩ := bcell hb1; )) | (go_at_call 22; (fail_if_success (have := w1)); ((with_reducible refine (must_t b _).mono ?_); rintro e w1 ⟨rfl, hb1⟩; (try (replace hb1 := below_undrew hb1)); (try (replace hb1 := below_undrewN hb1)); obtain ⟨hc1, hf1⟩ := bcell hb1; )) | (go_at_call 22; (fail_if_success (have := w1)); ((with_reducible refine (must_f b s p _ (hS.out.below (by repeat (first | (with_reducible exact Below.refl _ _) | (with_reducible refine below_al ?_ _) | (with_reducible refine below_drewN ?_ _) | (with_reducible refine Below.drew ?_) | (with_reducible refine below_via (by assumption) ?_) | (with_reducible refine below_sc ?_ ?_ _; · (first | (simp; done) | (simp; omega) | omega)))))).mono ?_); rintro e w1 ⟨rfl, hb1⟩; (try (replace hb1 := below_undrew hb1)); (try (replace hb1 := below_undrewN hb1)); obtain ⟨hc1, hf1⟩ := bcell hb1; )) | (go_at_call 21; (fail_if_success (have := w2)); ((with_reducible refine (rest_c b s p _ (hS.out.below (by repeat (first | (with_reducible exact Below.refl _ _) | (with_reducible refine below_al ?_ _) | (with_reducible refine below_drewN ?_ _) | (with_reducible refine Below.drew ?_) | (with_reducible refine below_via (by assumption) ?_) | (with_reducible refine below_sc ?_ ?_ _; · (first | (simp; done) | (simp; omega) | omega))))) (by omega) (by omega)).mono ?_); rintro e w2 ⟨rfl, hb2⟩; (try (replace hb2 := below_undrew hb2)); (try (replace hb2 := below_undrewN hb2)); obtain ⟨hc2, hf2⟩ := bcell hb2; (try (have hz_1_2 : w1.heap.size < w2.heap.size := (by have := hb2.size; (try simp at this); omega))))) | (go_at_call 72; (fail_if_success (have := w2)); ((with_reducible refine (runInner_c (dropB s p) n hrun.out _ (by omega)).mono ?_); rintro e w2 ⟨rfl, hb2⟩; (try (replace hb2 := below_undrew hb2)); (try (replace hb2 := below_undrewN hb2)); obtain ⟨hc2, hf2⟩ := bcell hb2; (try (have hz_1_2 : w1.heap.size < w2.heap.size := (by have := hb2.size; (try simp at this); omega))))) | (go_at_call 31; (fail_if_success (have := w2)); ((with_reducible refine (upper_c (l.take n) _ hsz.out hasc.out).mono ?_); rintro e w2 ⟨rfl, hb2⟩; (try (replace hb2 := below_undrew hb2)); (try (replace hb2 := below_undrewN hb2)); obtain ⟨hc2, hf2⟩ := bcell hb2; (try (have hz_1_2 : w1.heap.size < w2.heap.size := (by have := hb2.size; (try simp at this); omega))))) | (go_at_call 15; (fail_if_success (have := w2)); ((with_reducible refine (isWd_c (Lib.toUpperA (l.take n)) _ hw _ (hT.out.below (by repeat (first | (with_reducible exact Below.refl _ _) | (with_reducible refine below_al ?_ _) | (with_reducible refine below_drewN ?_ _) | (with_reducible refine Below.drew ?_) | (with_reducible refine below_via (by assumption) ?_) | (with_reducible refine below_sc ?_ ?_ _; · (first | (simp; done) | (simp; omega) | omega)))))).mono ?_); rintro e w2 ⟨rfl, hb2⟩; (try (replace hb2 := below_undrew hb2)); (try (replace hb2 := below_undrewN hb2)); obtain ⟨hc2, hf2⟩ := bcell hb2; (try (have hz_1_2 : w1.heap.size < w2.heap.size := (by have := hb2.size; (try simp at this); omega))))) | (go_at_call 73; (fail_if_success (have := w2)); ((with_reducible refine (lower_c (l.take n) _ hsz.out hasc.out).mono ?_); rintro e w2 ⟨rfl, hb2⟩; (try (replace hb2 := below_undrew hb2)); (try (replace hb2 := below_undrewN hb2)); obtain ⟨hc2, hf2⟩ := bcell hb2; (try (have hz_1_2 : w1.heap.size < w2.heap.size := (by have := hb2.size; (try simp at this); omega))))) | (go_at_call 22; (fail_if_success (have := w2)); ((with_reducible refine (must_t b _).mono ?_); rintro e w2 ⟨rfl, hb2⟩; (try (replace hb2 := below_undrew hb2)); (try (replace hb2 := below_undrewN hb2)); obtain ⟨hc2, hf2⟩ := bcell hb2; (try (have hz_1_2 : w1.heap.size < w2.heap.size := (by have := hb2.size; (try simp at this); omega))))) | (go_at_call 22; (fail_if_success (have := w2)); ((with_reducible refine (must_f b s p _ (hS.out.below (by repeat (first | (with_reducible exact Below.refl _ _) | (with_reducible refine below_al ?_ _) | (with_reducible refine below_drewN ?_ _) | (with_reducible refine Below.drew ?_) | (with_reducible refine below_via (by assumption) ?_) | (with_reducible refine below_sc ?_ ?_ _; · (first | (simp; done) | (simp; omega) | omega)))))).mono ?_); rintro e w2 ⟨rfl, hb2⟩; (try (replace hb2 := below_undrew hb2)); (try (replace hb2 := below_undrewN hb2)); obtain ⟨hc2, hf2⟩ := bcell hb2; (try (have hz_1_2 : w1.heap.size < w2.heap.size := (by have := hb2.size; (try simp at this); omega))))) | (go_at_call 21; (fail_if_success (have := w3)); ((with_reducible refine (rest_c b s p _ (hS.out.below (by repeat (first | (with_reducible exact Below.refl _ _) | (with_reducible refine below_al ?_ _) | (with_reducible refine below_drewN ?_ _) | (with_reducible refine Below.drew ?_) | (with_reducible refine below_via (by assumption) ?_) | (with_reducible refine below_sc ?_ ?_ _; · (first | (simp; done) | (simp; omega) | omega))))) (by omega) (by omega)).mono ?_); rintro e w3 ⟨rfl, hb3⟩; (try (replace hb3 := below_undrew hb3)); (try (replace hb3 := below_undrewN hb3)); obtain ⟨hc3, hf3⟩ := bcell hb3; (try (have hz_1_3 : w1.heap.size < w3.heap.size := (by have := hb3.size; (try simp at this); omega))); (try (have hz_2_3 : w2.heap.size < w3.heap.size := (by have := hb3.size; (try simp at this); omega))))) | (go_at_call 72; (fail_if_success (have := w3)); ((with_reducible refine (runInner_c (dropB s p) n hrun.out _ (by omega)).mono ?_); rintro e w3 ⟨rfl, hb3⟩; (try (replace hb3 := below_undrew hb3)); (try (replace hb3 := below_undrewN hb3)); obtain ⟨hc3, hf3⟩ := bcell hb3; (try (have hz_1_3 : w1.heap.size < w3.heap.size := (by have := hb3.size; (try simp at this); omega))); (try (have hz_2_3 : w2.heap.size < w3.heap.size := (by have := hb3.size; (try simp at this); omega))))) | (go_at_call 31; (fail_if_success (have := w3)); ((with_reducible refine (upper_c (l.take n) _ hsz.out hasc.out).mono ?_); rintro e w3 ⟨rfl, hb3⟩; (try (replace hb3 := below_undrew hb3)); (try (replace hb3 := below_undrewN hb3)); obtain ⟨hc3, hf3⟩ := bcell hb3; (try (have hz_1_3 : w1.heap.size < w3.heap.size := (by have := hb3.size; (try simp at this); omega))); (try (have hz_2_3 : w2.heap.size < w3.heap.size := (by have := hb3.size; (try simp at this); omega))))) | (go_at_call 15; (fail_if_success (have := w3)); ((with_reducible refine (isWd_c (Lib.toUpperA (l.take n)) _ hw _ (hT.out.below (by repeat (first | (with_reducible exact Below.refl _ _) | (with_reducible refine below_al ?_ _) | (with_reducible refine below_drewN ?_ _) | (with_reducible refine Below.drew ?_) | (with_reducible refine below_via (by assumption) ?_) | (with_reducible refine below_sc ?_ ?_ _; · (first | (simp; done) | (simp; omega) | omega)))))).mono ?_); rintro e w3 ⟨rfl, hb3⟩; (try (replace hb3 := below_undrew hb3)); (try (replace hb3 := below_undrewN hb3)); obtain ⟨hc3, hf3⟩ := bcell hb3; (try (have hz_1_3 : w1.heap.size < w3.heap.size := (by have := hb3.size; (try simp at this); omega))); (try (have hz_2_3 : w2.heap.size < w3.heap.size := (by have := hb3.size; (try simp at this); omega))))) | (go_at_call 73; (fail_if_success (have := w3)); ((with_reducible refine (lower_c (l.take n) _ hsz.out hasc.out).mono ?_); rintro e w3 ⟨rfl, hb3⟩; (try (replace hb3 := below_undrew hb3)); (try (replace hb3 := below_undrewN hb3)); obtain ⟨hc3, hf3⟩ := bcell hb3; (try (have hz_1_3 : w1.heap.size < w3.heap.size := (by have := hb3.size; (try simp at this); omega))); (try (have hz_2_3 : w2.heap.size < w3.heap.size := (by have := hb3.size; (try simp at this); omega))))) | (go_at_call 22; (fail_if_success (have := w3)); ((with_reducible refine (must_t b _).mono ?_); rintro e w3 ⟨rfl, hb3⟩; (try (replace hb3 := below_undrew hb3)); (try (replace hb3 := below_undrewN hb3)); obtain ⟨hc3, hf3⟩ := bcell hb3; (try (have hz_1_3 : w1.heap.size < w3.heap.size := (by have := hb3.size; (try simp at this); omega))); (try (have hz_2_3 : w2.heap.size < w3.heap.size := (by have := hb3.size; (try simp at this); omega))))) | (go_at_call 22; (fail_if_success (have := w3)); ((with_reducible refine (must_f b s p _ (hS.out.below (by repeat (first | (with_reducible exact Below.refl _ _) | (with_reducible refine below_al ?_ _) | (with_reducible refine below_drewN ?_ _) | (with_reducible refine Below.drew ?_) | (with_reducible refine below_via (by assumption) ?_) | (with_reducible refine below_sc ?_ ?_ _; · (first | (simp; done) | (simp; omega) | omega)))))).mono ?_); rintro e w3 ⟨rfl, hb3⟩; (try (replace hb3 := below_undrew hb3)); (try (replace hb3 := below_undrewN hb3)); obtain ⟨hc3, hf3⟩ := bcell hb3; (try (have hz_1_3 : w1.heap.size < w3.heap.size := (by have := hb3.size; (try simp at this); omega))); (try (have hz_2_3 : w2.heap.size < w3.heap.size := (by have := hb3.size; (try simp at this); omega))))) | (go_at_call 21; (fail_if_success (have := w4)); ((with_reducible refine (rest_c b s p _ (hS.out.below (by repeat (first | (with_reducible exact Below.refl _ _) | (with_reducible refine below_al ?_ _) | (with_reducible refine below_drewN ?_ _) | (with_reducible refine Below.drew ?_) | (with_reducible refine below_via (by assumption) ?_) | (with_reducible refine below_sc ?_ ?_ _; · (first | (simp; done) | (simp; omega) | omega))))) (by omega) (by omega)).mono ?_); rintro e w4 ⟨rfl, hb4⟩; (try (replace hb4 := below_undrew hb4)); (try (replace hb4 := below_undrewN hb4)); obtain ⟨hc4, hf4⟩ := bcell hb4; (try (have hz_1_4 : w1.heap.size < w4.heap.size := (by have := hb4.size; (try simp at this); omega))); (try (have hz_2_4 : w2.heap.size < w4.heap.size := (by have := hb4.size; (try simp at this); omega))); (try (have hz_3_4 : w3.heap.size < w4.heap.size := (by have := hb4.size; (try simp at this); omega))))) | (go_at_call 72; (fail_if_success (have := w4)); ((with_reducible refine (runInner_c (dropB s p) n hrun.out _ (by omega)).mono ?_); rintro e w4 ⟨rfl, hb4⟩; (try (replace hb4 := below_undrew hb4)); (try (replace hb4 := below_undrewN hb4)); obtain ⟨hc4, hf4⟩ := bcell hb4; (try (have hz_1_4 : w1.heap.size < w4.heap.size := (by have := hb4.size; (try simp at this); omega))); (try (have hz_2_4 : w2.heap.size < w4.heap.size := (by have := hb4.size; (try simp at this); omega))); (try (have hz_3_4 : w3.heap.size < w4.heap.size := (by have := hb4.size; (try simp at this); omega))))) | (go_at_call 31; (fail_if_success (have := w4)); ((with_reducible refine (upper_c (l.take n) _ hsz.out hasc.out).mono ?_); rintro e w4 ⟨rfl, hb4⟩; (try (replace hb4 := below_undrew hb4)); (try (replace hb4 := below_undrewN hb4)); obtain ⟨hc4, hf4⟩ := bcell hb4; (try (have hz_1_4 : w1.heap.size < w4.heap.size := (by have := hb4.size; (try simp at this); omega))); (try (have hz_2_4 : w2.heap.size < w4.heap.size := (by have := hb4.size; (try simp at this); omega))); (try (have hz_3_4 : w3.heap.size < w4.heap.size := (by have := hb4.size; (try simp at this); omega))))) | (go_at_call 15; (fail_if_success (have := w4)); ((with_reducible refine (isWd_c (Lib.toUpperA (l.take n)) _ hw _ (hT.out.below (by repeat (first | (with_reducible exact Below.refl _ _) | (with_reducible refine below_al ?_ _) | (with_reducible refine below_drewN ?_ _) | (with_reducible refine Below.drew ?_) | (with_reducible refine below_via (by assumption) ?_) | (with_reducible refine below_sc ?_ ?_ _; · (first | (simp; done) | (simp; omega) | omega)))))).mono ?_); rintro e w4 ⟨rfl, hb4⟩; (try (replace hb4 := below_undrew hb4)); (try (replace hb4 := below_undrewN hb4)); obtain ⟨hc4, hf4⟩ := bcell hb4; (try (have hz_1_4 : w1.heap.size < w4.heap.size := (by have := hb4.size; (try simp at this); omega))); (try (have hz_2_4 : w2.heap.size < w4.heap.size := (by have := hb4.size; (try simp at this); omega))); (try (have hz_3_4 : w3.heap.size < w4.heap.size := (by have := hb4.size; (try simp at this); omega))))) | (go_at_call 73; (fail_if_success (have := w4)); ((with_reducible refine (lower_c (l.take n) _ hsz.out hasc.out).mono ?_); rintro e w4 ⟨rfl, hb4⟩; (try (replace hb4 := below_undrew hb4)); (try (replace hb4 := below_undrewN hb4)); obtain ⟨hc4, hf4⟩ := bcell hb4; (try (have hz_1_4 : w1.heap.size < w4.heap.size := (by have := hb4.size; (try simp at this); omega))); (try (have hz_2_4 : w2.heap.size < w4.heap.size := (by have := hb4.size; (try simp at this); omega))); (try (have hz_3_4 : w3.heap.size < w4.heap.size := (by have := hb4.size; (try simp at this); omega))))) | (go_at_call 22; (fail_if_success (have := w4)); ((with_reducible refine (must_t b _).mono ?_); rintro e w4 ⟨rfl, hb4⟩; (try (replace hb4 := below_undrew hb4)); (try (replace hb4 := below_undrewN hb4)); obtain ⟨hc4, hf4⟩ := bcell hb4; (try (have hz_1_4 : w1.heap.size < w4.heap.size := (by have := hb4.size; (try simp at this); omega))); (try (have hz_2_4 : w2.heap.size < w4.heap.size := (by have := hb4.size; (try simp at this); omega))); (try (have hz_3_4 : w3.heap.size < w4.heap.size := (by have := hb4.size; (try simp at this); omega))))) | (go_at_call 22; (fail_if_success (have := w4)); ((with_reducible refine (must_f b s p _ (hS.out.below (by repeat (first | (with_reducible exact Below.refl _ _) | (with_reducible refine below_al ?_ _) | (with_reducible refine below_drewN ?_ _) | (with_reducible refine Below.drew ?_) | (with_reducible refine below_via (by assumption) ?_) | (with_reducible refine below_sc ?_ ?_ _; · (first | (simp; done) | (simp; omega) | omega)))))).mono ?_); rintro e w4 ⟨rfl, hb4⟩; (try (replace hb4 := below_undrew hb4)); (try (replace hb4 := below_undrewN hb4)); obtain ⟨hc4, hf4⟩ := bcell hb4; (try (have hz_1_4 : w1.heap.size < w4.heap.size := (by have := hb4.size; (try simp at this); omega))); (try (have hz_2_4 : w2.heap.size < w4.heap.size := (by have := hb4.size; (try simp at this); omega))); (try (have hz_3_4 : w3.heap.size < w4.heap.size := (by have := hb4.size; (try simp at this); omega))))) | (go_at_call 21; (fail_if_success (have := w5)); ((with_reducible refine (rest_c b s p _ (hS.out.below (by repeat (first | (with_reducible exact Below.refl _ _) | (with_reducible refine below_al ?_ _) | (with_reducible refine below_drewN ?_ _) | (with_reducible refine Below.drew ?_) | (with_reducible refine below_via (by assumption) ?_) | (with_reducible refine below_sc ?_ ?_ _; · (first | (simp; done) | (simp; omega) | omega))))) (by omega) (by omega)).mono ?_); rintro e w5 ⟨rfl, hb5⟩; (try (replace hb5 := below_undrew hb5)); (try (replace hb5 := below_undrewN hb5)); obtain ⟨hc5, hf5⟩ := bcell hb5; (try (have hz_1_5 : w1.heap.size < w5.heap.size := (by have := hb5.size; (try simp at this); omega))); (try (have hz_2_5 : w2.heap.size < w5.heap.size := (by have := hb5.size; (try simp at this); omega))); (try (have hz_3_5 : w3.heap.size < w5.heap.size := (by have := hb5.size; (try simp at this); omega))); (try (have hz_4_5 : w4.heap.size < w5.heap.size := (by have := hb5.size; (try simp at this); omega))))) | (go_at_call 72; (fail_if_success (have := w5)); ((with_reducible refine (runInner_c (dropB s p) n hrun.out _ (by omega)).mono ?_); rintro e w5 ⟨rfl, hb5⟩; (try (replace hb5 := below_undrew hb5)); (try (replace hb5 := below_undrewN hb5)); obtain ⟨hc5, hf5⟩ := bcell hb5; (try (have hz_1_5 : w1.heap.size < w5.heap.size := (by have := hb5.size; (try simp at this); omega))); (try (have hz_2_5 : w2.heap.size < w5.heap.size := (by have := hb5.size; (try simp at this); omega))); (try (have hz_3_5 : w3.heap.size < w5.heap.size := (by have := hb5.size; (try simp at this); omega))); (try (have hz_4_5 : w4.heap.size < w5.heap.size := (by have := hb5.size; (try simp at this); omega))))) | (go_at_call 31; (fail_if_success (have := w5)); ((with_reducible refine (upper_c (l.take n) _ hsz.out hasc.out).mono ?_); rintro e w5 ⟨rfl, hb5⟩; (try (replace hb5 := below_undrew hb5)); (try (replace hb5 := below_undrewN hb5)); obtain ⟨hc5, hf5⟩ := bcell hb5; (try (have hz_1_5 : w1.heap.size < w5.heap.size := (by have := hb5.size; (try simp at this); omega))); (try (have hz_2_5 : w2.heap.size < w5.heap.size := (by have := hb5.size; (try simp at this); omega))); (try (have hz_3_5 : w3.heap.size < w5.heap.size := (by have := hb5.size; (try simp at this); omega))); (try (have hz_4_5 : w4.heap.size < w5.heap.size := (by have := hb5.size; (try simp at this); omega))))) | (go_at_call 15; (fail_if_success (have := w5)); ((with_reducible refine (isWd_c (Lib.toUpperA (l.take n)) _ hw _ (hT.out.below (by repeat (first | (with_reducible exact Below.refl _ _) | (with_reducible refine below_al ?_ _) | (with_reducible refine below_drewN ?_ _) | (with_reducible refine Below.drew ?_) | (with_reducible refine below_via (by assumption) ?_) | (with_reducible refine below_sc ?_ ?_ _; · (first | (simp; done) | (simp; omega) | omega)))))).mono ?_); rintro e w5 ⟨rfl, hb5⟩; (try (replace hb5 := below_undrew hb5)); (try (replace hb5 := below_undrewN hb5)); obtain ⟨hc5, hf5⟩ := bcell hb5; (try (have hz_1_5 : w1.heap.size < w5.heap.size := (by have := hb5.size; (try simp at this); omega))); (try (have hz_2_5 : w2.heap.size < w5.heap.size := (by have := hb5.size; (try simp at this); omega))); (try (have hz_3_5 : w3.heap.size < w5.heap.size := (by have := hb5.size; (try simp at this); omega))); (try (have hz_4_5 : w4.heap.size < w5.heap.size := (by have := hb5.size; (try simp at this); omega))))) | (go_at_call 73; (fail_if_success (have := w5)); ((with_reducible refine (lower_c (l.take n) _ hsz.out hasc.out).mono ?_); rintro e w5 ⟨rfl, hb5⟩; (try (replace hb5 := below_undrew hb5)); (try (replace hb5 := below_undrewN hb5)); obtain ⟨hc5, hf5⟩ := bcell hb5; (try (have hz_1_5 : w1.heap.size < w5.heap.size := (by have := hb5.size; (try simp at this); omega))); (try (have hz_2_5 : w2.heap.size < w5.heap.size := (by have := hb5.size; (try simp at this); omega))); (try (have hz_3_5 : w3.heap.size < w5.heap.size := (by have := hb5.size; (try simp at this); omega))); (try (have hz_4_5 : w4.heap.size < w5.heap.size := (by have := hb5.size; (try simp at this); omega))))) | (go_at_call 22; (fail_if_success (have := w5)); ((with_reducible refine (must_t b _).mono ?_); rintro e w5 ⟨rfl, hb5⟩; (try (replace hb5 := below_undrew hb5)); (try (replace hb5 := below_undrewN hb5)); obtain ⟨hc5, hf5⟩ := bcell hb5; (try (have hz_1_5 : w1.heap.size < w5.heap.size := (by have := hb5.size; (try simp at this); omega))); (try (have hz_2_5 : w2.heap.size < w5.heap.size := (by have := hb5.size; (try simp at this); omega))); (try (have hz_3_5 : w3.heap.size < w5.heap.size := (by have := hb5.size; (try simp at this); omega))); (try (have hz_4_5 : w4.heap.size < w5.heap.size := (by have := hb5.size; (try simp at this); omega))))) | (go_at_call 22; (fail_if_success (have := w5)); ((with_reducible refine (must_f b s p _ (hS.out.below (by repeat (first | (with_reducible exact Below.refl _ _) | (with_reducible refine below_al ?_ _) | (with_reducible refine below_drewN ?_ _) | (with_reducible refine Below.drew ?_) | (with_reducible refine below_via (by assumption) ?_) | (with_reducible refine below_sc ?_ ?_ _; · (first | (simp; done) | (simp; omega) | omega)))))).mono ?_); rintro e w5 ⟨rfl, hb5⟩; (try (replace hb5 := below_undrew hb5)); (try (replace hb5 := below_undrewN hb5)); obtain ⟨hc5, hf5⟩ := bcell hb5; (try (have hz_1_5 : w1.heap.size < w5.heap.size := (by have := hb5.size; (try simp at this); omega))); (try (have hz_2_5 : w2.heap.size < w5.heap.size := (by have := hb5.size; (try simp at this); omega))); (try (have hz_3_5 : w3.heap.size < w5.heap.size := (by have := hb5.size; (try simp at this); omega))); (try (have hz_4_5 : w4.heap.size < w5.heap.size := (by have := hb5.size; (try simp at this); omega))))) | (go_at_call 21; (fail_if_success (have := w6)); ((with_reducible refine (rest_c b s p _ (hS.out.below (by repeat (first | (with_reducible exact Below.refl _ _) | (with_reducible refine below_al ?_ _) | (with_reducible refine below_drewN ?_ _) | (with_reducible refine Below.drew ?_) | (with_reducible refine below_via (by assumption) ?_) | (with_reducible refine below_sc ?_ ?_ _; · (first | (simp; done) | (simp; omega) | omega))))) (by omega) (by omega)).mono ?_); rintro e w6 ⟨rfl, hb6⟩; (try (replace hb6 := below_undrew hb6)); (try (replace hb6 := below_undrewN hb6)); obtain ⟨hc6, hf6⟩ := bcell hb6; (try (have hz_1_6 : w1.heap.size < w6.heap.size := (by have := hb6.size; (try simp at this); omega))); (try (have hz_2_6 : w2.heap.size < w6.heap.size := (by have := hb6.size; (try simp at this); omega))); (try (have hz_3_6 : w3.heap.size < w6.heap.size := (by have := hb6.size; (try simp at this); omega))); (try (have hz_4_6 : w4.heap.size < w6.heap.size := (by have := hb6.size; (try simp at this); omega))); (try (have hz_5_6 : w5.heap.size < w6.heap.size := (by have := hb6.size; (try simp at this); omega))))) | (go_at_call 72; (fail_if_success (have := w6)); ((with_reducible refine (runInner_c (dropB s p) n hrun.out _ (by omega)).mono ?_); rintro e w6 ⟨rfl, hb6⟩; (try (replace hb6 := below_undrew hb6)); (try (replace hb6 := below_undrewN hb6)); obtain ⟨hc6, hf6⟩ := bcell hb6; (try (have hz_1_6 : w1.heap.size < w6.heap.size := (by have := hb6.size; (try simp at this); omega))); (try (have hz_2_6 : w2.heap.size < w6.heap.size := (by have := hb6.size; (try simp at this); omega))); (try (have hz_3_6 : w3.heap.size < w6.heap.size := (by have := hb6.size; (try simp at this); omega))); (try (have hz_4_6 : w4.heap.size < w6.heap.size := (by have := hb6.size; (try simp at this); omega))); (try (have hz_5_6 : w5.heap.size < w6.heap.size := (by have := hb6.size; (try simp at this); omega))))) | (go_at_call 31; (fail_if_success (have := w6)); ((with_reducible refine (upper_c (l.take n) _ hsz.out hasc.out).mono ?_); rintro e w6 ⟨rfl, hb6⟩; (try (replace hb6 := below_undrew hb6)); (try (replace hb6 := below_undrewN hb6)); obtain ⟨hc6, hf6⟩ := bcell hb6; (try (have hz_1_6 : w1.heap.size < w6.heap.size := (by have := hb6.size; (try simp at this); omega))); (try (have hz_2_6 : w2.heap.size < w6.heap.size := (by have := hb6.size; (try simp at this); omega))); (try (have hz_3_6 : w3.heap.size < w6.heap.size := (by have := hb6.size; (try simp at this); omega))); (try (have hz_4_6 : w4.heap.size < w6.heap.size := (by have := hb6.size; (try simp at this); omega))); (try (have hz_5_6 : w5.heap.size < w6.heap.size := (by have := hb6.size; (try simp at this); omega))))) | (go_at_call 15; (fail_if_success (have := w6)); ((with_reducible refine (isWd_c (Lib.toUpperA (l.take n)) _ hw _ (hT.out.below (by repeat (first | (with_reducible exact Below.refl _ _) | (with_reducible refine below_al ?_ _) | (with_reducible refine below_drewN ?_ _) | (with_reducible refine Below.drew ?_) | (with_reducible refine below_via (by assumption) ?_) | (with_reducible refine below_sc ?_ ?_ _; · (first | (simp; done) | (simp; omega) | omega)))))).mono ?_); rintro e w6 ⟨rfl, hb6⟩; (try (replace hb6 := below_undrew hb6)); (try (replace hb6 := below_undrewN hb6)); obtain ⟨hc6, hf6⟩ := bcell hb6; (try (have hz_1_6 : w1.heap.size < w6.heap.size := (by have := hb6.size; (try simp at this); omega))); (try (have hz_2_6 : w2.heap.size < w6.heap.size := (by have := hb6.size; (try simp at this); omega))); (try (have hz_3_6 : w3.heap.size < w6.heap.size := (by have := hb6.size; (try simp at this); omega))); (try (have hz_4_6 : w4.heap.size < w6.heap.size := (by have := hb6.size; (try simp at this); omega))); (try (have hz_5_6 : w5.heap.size < w6.heap.size := (by have := hb6.size; (try simp at this); omega))))) | (go_at_call 73; (fail_if_success (have := w6)); ((with_reducible refine (lower_c (l.take n) _ hsz.out hasc.out).mono ?_); rintro e w6 ⟨rfl, hb6⟩; (try (replace hb6 := below_undrew hb6)); (try (replace hb6 := below_undrewN hb6)); obtain ⟨hc6, hf6⟩ := bcell hb6; (try (have hz_1_6 : w1.heap.size < w6.heap.size := (by have := hb6.size; (try simp at this); omega))); (try (have hz_2_6 : w2.heap.size < w6.heap.size := (by have := hb6.size; (try simp at this); omega))); (try (have hz_3_6 : w3.heap.size < w6.heap.size := (by have := hb6.size; (try simp at this); omega))); (try (have hz_4_6 : w4.heap.size < w6.heap.size := (by have := hb6.size; (try simp at this); omega))); (try (have hz_5_6 : w5.heap.size < w6.heap.size := (by have := hb6.size; (try simp at this); omega))))) | (go_at_call 22; (fail_if_success (have := w6)); ((with_reducible refine (must_t b _).mono ?_); rintro e w6 ⟨rfl, hb6⟩; (try (replace hb6 := below_undrew hb6)); (try (replace hb6 := below_undrewN hb6)); obtain ⟨hc6, hf6⟩ := bcell hb6; (try (have hz_1_6 : w1.heap.size < w6.heap.size := (by have := hb6.size; (try simp at this); omega))); (try (have hz_2_6 : w2.heap.size < w6.heap.size := (by have := hb6.size; (try simp at this); omega))); (try (have hz_3_6 : w3.heap.size < w6.heap.size := (by have := hb6.size; (try simp at this); omega))); (try (have hz_4_6 : w4.heap.size < w6.heap.size := (by have := hb6.size; (try simp at this); omega))); (try (have hz_5_6 : w5.heap.size < w6.heap.size := (by have := hb6.size; (try simp at this); omega))))) | (go_at_call 22; (fail_if_success (have := w6)); ((with_reducible refine (must_f b s p _ (hS.out.below (by repeat (first | (with_reducible exact Below.refl _ _) | (with_reducible refine below_al ?_ _) | (with_reducible refine below_drewN ?_ _) | (with_reducible refine Below.drew ?_) | (with_reducible refine below_via (by assumption) ?_) | (with_reducible refine below_sc ?_ ?_ _; · (first | (simp; done) | (simp; omega) | omega)))))).mono ?_); rintro e w6 ⟨rfl, hb6⟩; (try (replace hb6 := below_undrew hb6)); (try (replace hb6 := below_undrewN hb6)); obtain ⟨hc6, hf6⟩ := bcell hb6; (try (have hz_1_6 : w1.heap.size < w6.heap.size := (by have := hb6.size; (try simp at this); omega))); (try (have hz_2_6 : w2.heap.size < w6.heap.size := (by have := hb6.size; (try simp at this); omega))); (try (have hz_3_6 : w3.heap.size < w6.heap.size := (by have := hb6.size; (try simp at this); omega))); (try (have hz_4_6 : w4.heap.size < w6.heap.size := (by have := hb6.size; (try simp at this); omega))); (try (have hz_5_6 : w5.heap.size < w6.heap.size := (by have := hb6.size; (try simp at this); omega))))) | (go_at_call 21; (fail_if_success (have := w7)); ((with_reducible refine (rest_c b s p _ (hS.out.below (by repeat (first | (with_reducible exact Below.refl _ _) | (with_reducible refine below_al ?_ _) | (with_reducible refine below_drewN ?_ _) | (with_reducible refine Below.drew ?_) | (with_reducible refine below_via (by assumption) ?_) | (with_reducible refine below_sc ?_ ?_ _; · (first | (simp; done) | (simp; omega) | omega))))) (by omega) (by omega)).mono ?_); rintro e w7 ⟨rfl, hb7⟩; (try (replace hb7 := below_undrew hb7)); (try (replace hb7 := below_undrewN hb7)); obtain ⟨hc7, hf7⟩ := bcell hb7; (try (have hz_1_7 : w1.heap.size < w7.heap.size := (by have := hb7.size; (try simp at this); omega))); (try (have hz_2_7 : w2.heap.size < w7.heap.size := (by have := hb7.size; (try simp at this); omega))); (try (have hz_3_7 : w3.heap.size < w7.heap.size := (by have := hb7.size; (try simp at this); omega))); (try (have hz_4_7 : w4.heap.size < w7.heap.size := (by have := hb7.size; (try simp at this); omega))); (try (have hz_5_7 : w5.heap.size < w7.heap.size := (by have := hb7.size; (try simp at this); omega))); (try (have hz_6_7 : w6.heap.size < w7.heap.size := (by have := hb7.size; (try simp at this); omega))))) | (go_at_call 72; (fail_if_success (have := w7)); ((with_reducible refine (runInner_c (dropB s p) n hrun.out _ (by omega)).mono ?_); rintro e w7 ⟨rfl, hb7⟩; (try (replace hb7 := below_undrew hb7)); (try (replace hb7 := below_undrewN hb7)); obtain ⟨hc7, hf7⟩ := bcell hb7; (try (have hz_1_7 : w1.heap.size < w7.heap.size := (by have := hb7.size; (try simp at this); omega))); (try (have hz_2_7 : w2.heap.size < w7.heap.size := (by have := hb7.size; (try simp at this); omega))); (try (have hz_3_7 : w3.heap.size < w7.heap.size := (by have := hb7.size; (try simp at this); omega))); (try (have hz_4_7 : w4.heap.size < w7.heap.size := (by have := hb7.size; (try simp at this); omega))); (try (have hz_5_7 : w5.heap.size < w7.heap.size := (by have := hb7.size; (try simp at this); omega))); (try (have hz_6_7 : w6.heap.size < w7.heap.size := (by have := hb7.size; (try simp at this); omega))))) | (go_at_call 31; (fail_if_success (have := w7)); ((with_reducible refine (upper_c (l.take n) _ hsz.out hasc.out).mono ?_); rintro e w7 ⟨rfl, hb7⟩; (try (replace hb7 := below_undrew hb7)); (try (replace hb7 := below_undrewN hb7)); obtain ⟨hc7, hf7⟩ := bcell hb7; (try (have hz_1_7 : w1.heap.size < w7.heap.size := (by have := hb7.size; (try simp at this); omega))); (try (have hz_2_7 : w2.heap.size < w7.heap.size := (by have := hb7.size; (try simp at this); omega))); (try (have hz_3_7 : w3.heap.size < w7.heap.size := (by have := hb7.size; (try simp at this); omega))); (try (have hz_4_7 : w4.heap.size < w7.heap.size := (by have := hb7.size; (try simp at this); omega))); (try (have hz_5_7 : w5.heap.size < w7.heap.size := (by have := hb7.size; (try simp at this); omega))); (try (have hz_6_7 : w6.heap.size < w7.heap.size := (by have := hb7.size; (try simp at this); omega))))) | (go_at_call 15; (fail_if_success (have := w7)); ((with_reducible refine (isWd_c (Lib.toUpperA (l.take n)) _ hw _ (hT.out.below (by repeat (first | (with_reducible exact Below.refl _ _) | (with_reducible refine below_al ?_ _) | (with_reducible refine below_drewN ?_ _) | (with_reducible refine Below.drew ?_) | (with_reducible refine below_via (by assumption) ?_) | (with_reducible refine below_sc ?_ ?_ _; · (first | (simp; done) | (simp; omega) | omega)))))).mono ?_); rintro e w7 ⟨rfl, hb7⟩; (try (replace hb7 := below_undrew hb7)); (try (replace hb7 := below_undrewN hb7)); obtain ⟨hc7, hf7⟩ := bcell hb7; (try (have hz_1_7 : w1.heap.size < w7.heap.size := (by have := hb7.size; (try simp at this); omega))); (try (have hz_2_7 : w2.heap.size < w7.heap.size := (by have := hb7.size; (try simp at this); omega))); (try (have hz_3_7 : w3.heap.size < w7.heap.size := (by have := hb7.size; (try simp at this); omega))); (try (have hz_4_7 : w4.heap.size < w7.heap.size := (by have := hb7.size; (try simp at this); omega))); (try (have hz_5_7 : w5.heap.size < w7.heap.size := (by have := hb7.size; (try simp at this); omega))); (try (have hz_6_7 : w6.heap.size < w7.heap.size := (by have := hb7.size; (try simp at this); omega))))) | (go_at_call 73; (fail_if_success (have := w7)); ((with_reducible refine (lower_c (l.take n) _ hsz.out hasc.out).mono ?_); rintro e w7 ⟨rfl, hb7⟩; (try (replace hb7 := below_undrew hb7)); (try (replace hb7 := below_undrewN hb7)); obtain ⟨hc7, hf7⟩ := bcell hb7; (try (have hz_1_7 : w1.heap.size < w7.heap.size := (by have := hb7.size; (try simp at this); omega))); (try (have hz_2_7 : w2.heap.size < w7.heap.size := (by have := hb7.size; (try simp at this); omega))); (try (have hz_3_7 : w3.heap.size < w7.heap.size := (by have := hb7.size; (try simp at this); omega))); (try (have hz_4_7 : w4.heap.size < w7.heap.size := (by have := hb7.size; (try simp at this); omega))); (try (have hz_5_7 : w5.heap.size < w7.heap.size := (by have := hb7.size; (try simp at this); omega))); (try (have hz_6_7 : w6.heap.size < w7.heap.size := (by have := hb7.size; (try simp at this); omega))))) | (go_at_call 22; (fail_if_success (have := w7)); ((with_reducible refine (must_t b _).mono ?_); rintro e w7 ⟨rfl, hb7⟩; (try (replace hb7 := below_undrew hb7)); (try (replace hb7 := below_undrewN hb7)); obtain ⟨hc7, hf7⟩ := bcell hb7; (try (have hz_1_7 : w1.heap.size < w7.heap.size := (by have := hb7.size; (try simp at this); omega))); (try (have hz_2_7 : w2.heap.size < w7.heap.size := (by have := hb7.size; (try simp at this); omega))); (try (have hz_3_7 : w3.heap.size < w7.heap.size := (by have := hb7.size; (try simp at this); omega))); (try (have hz_4_7 : w4.heap.size < w7.heap.size := (by have := hb7.size; (try simp at this); omega))); (try (have hz_5_7 : w5.heap.size < w7.heap.size := (by have := hb7.size; (try simp at this); omega))); (try (have hz_6_7 : w6.heap.size < w7.heap.size := (by have := hb7.size; (try simp at this); omega))))) | (go_at_call 22; (fail_if_success (have := w7)); ((with_reducible refine (must_f b s p _ (hS.out.below (by repeat (first | (with_reducible exact Below.refl _ _) | (with_reducible refine below_al ?_ _) | (with_reducible refine below_drewN ?_ _) | (with_reducible refine Below.drew ?_) | (with_reducible refine below_via (by assumption) ?_) | (with_reducible refine below_sc ?_ ?_ _; · (first | (simp; done) | (simp; omega) | omega)))))).mono ?_); rintro e w7 ⟨rfl, hb7⟩; (try (replace hb7 := below_undrew hb7)); (try (replace hb7 := below_undrewN hb7)); obtain ⟨hc7, hf7⟩ := bcell hb7; (try (have hz_1_7 : w1.heap.size < w7.heap.size := (by have := hb7.size; (try simp at this); omega))); (try (have hz_2_7 : w2.heap.size < w7.heap.size := (by have := hb7.size; (try simp at this); omega))); (try (have hz_3_7 : w3.heap.size < w7.heap.size := (by have := hb7.size; (try simp at this); omega))); (try (have hz_4_7 : w4.heap.size < w7.heap.size := (by have := hb7.size; (try simp at this); omega))); (try (have hz_5_7 : w5.heap.size < w7.heap.size := (by have := hb7.size; (try simp at this); omega))); (try (have hz_6_7 : w6.heap.size < w7.heap.size := (by have := hb7.size; (try simp at this); omega))))))
      all_goals (first
        | exact ⟨rfl, rfl, (by repeat (first | (with_reducible exact Below.refl _ _) | (with_reducible refine below_al ?_ _) | (with_reducible refine below_drewN ?_ _) | (with_reducible refine Below.drew ?_) | (with_reducible refine below_via (by assumption) ?_) | (with_reducible refine below_sc ?_ ?_ _; · (first | (simp; done) | (simp; omega) | omega))))⟩
        | (exact bodyPost_ret (v := .tuple #[.int .i64 2, .string ⟨(Lib.toUpperA (l.take n)).toArray⟩, .int .i64 n]) (by simp [results, Tryd.results46, go_sem, *]) rfl ⟨rfl, (by repeat (first | (with_reducible exact Below.refl _ _) | (with_reducible refine below_al ?_ _) | (with_reducible refine below_drewN ?_ _) | (with_reducible refine Below.drew ?_) | (with_reducible refine below_via (by assumption) ?_) | (with_reducible refine below_sc ?_ ?_ _; · (first | (simp; done) | (simp; omega) | omega))))⟩)
        | (exact bodyPost_ret (v := .tuple #[.int .i64 1, .string ⟨(Lib.toLowerA (l.take n)).toArray⟩, .int .i64 n]) (by simp [results, Tryd.results46, go_sem, *]) rfl ⟨rfl, (by repeat (first | (with_reducible exact Below.refl _ _) | (with_reducible refine below_al ?_ _) | (with_reducible refine below_drewN ?_ _) | (with_reducible refine Below.drew ?_) | (with_reducible refine below_via (by assumption) ?_) | (with_reducible refine below_sc ?_ ?_ _; · (first | (simp; done) | (simp; omega) | omega))))⟩)
        | trace_state)
end Go.Proofs.YtlaafpbhhnehgaaDoor
end
section
namespace Go.Proofs.YtlaafpbhhnehgaaDoor
set_option linter.unusedVariables false
set_option linter.unusedSimpArgs false
open Go.RowKit
def dotD (l : List UInt8) (n : Nat) : Bool := match l.drop n with | c :: d :: _ => c == 46 && isDig d.toNat | _ => false
/-- whether a number's letters, without noughts ahead, are an int -/
def intOk (t : List UInt8) : Bool := decide (t.length < 19) || (decide (t.length = 19) && (Op.bytesLess t [57, 50, 50, 51, 51, 55, 50, 48, 51, 54, 56, 53, 52, 55, 55, 53, 56, 48, 55] || t == [57, 50, 50, 51, 51, 55, 50, 48, 51, 54, 56, 53, 52, 55, 55, 53, 56, 48, 55]))
/-- a number without the noughts ahead -/
def bareN (l : List UInt8) (n : Nat) : List UInt8 := Lib.trimLeftB (l.take (n - 1)) 48 ++ (l.drop (n - 1)).take 1
def numT (l : List UInt8) : Option (Int × List UInt8 × Nat) :=
  if dotD l (runL isDig l) then
    if runL isDig l + 1 + runL isDig (l.drop (runL isDig l + 1)) ≤ 16 then some (4, l.take (runL isDig l + 1 + runL isDig (l.drop (runL isDig l + 1))), runL isDig l + 1 + runL isDig (l.drop (runL isDig l + 1))) else none
  else if intOk (bareN l (runL isDig l)) then some (3, bareN l (runL isDig l), runL isDig l) else none
theorem dotD_get (u : ByteArray) (n : Nat) (h : n + 1 < u.size) : dotD u.data.toList n = (u[n] == 46 && isDig (u[n+1]).toNat) := by
  unfold dotD
  rw [get_lt (show n < u.size by omega), get_lt h]
theorem dotD_short (u : ByteArray) (n : Nat) (h : ¬ n + 1 < u.size) : dotD u.data.toList n = false := by
  unfold dotD
  have hl : (u.data.toList.drop n).length ≤ 1 := by rw [List.length_drop, ← Lib.size_eq]; omega
  match hd : u.data.toList.drop n with
  | [] => rfl
  | [c] => rfl
  | c :: d :: t => rw [hd] at hl; simp at hl
theorem extr (u : ByteArray) (a b : Nat) : u.extract a b = ⟨((u.data.toList.drop a).take (b - a)).toArray⟩ := by
  apply ByteArray.ext
  apply Array.toList_inj.1
  rw [Lib.extract_data]
theorem trim48 (l : List UInt8) (w : World) :
    Calls Tryd.prog 41 #[.string ⟨l.toArray⟩, .string ⟨#[48]⟩] w fun e w' => e = .returned (.string ⟨(Lib.trimLeftB l 48).toArray⟩) ∧ w' = w :=
  Tryd.strings_TrimLeft_one ⟨l.toArray⟩ 48 (by decide) w
set_option maxRecDepth 100000 in
set_option maxHeartbeats 4000000 in
theorem number_dot (b : Nat) (s : ByteArray) (p : Nat) (w : World) (hs : s.size ≤ 65536) (h : Sc w b s p) (hp : p ≤ s.size) (h1 : 0 < runL isDig (s.data.toList.drop p)) (hd : dotD (s.data.toList.drop p) (runL isDig (s.data.toList.drop p)) = true) :
    Calls Tryd.prog 47 #[.pointer (some ⟨b, 0, none⟩)] w (OutT p (numT (s.data.toList.drop p)) w) := by
  have hS := hidF h
  have hlt := h.lt
  obtain ⟨c0, c1, f1⟩ := h
  have cR : ∀ W, Sc W b s p → Calls Tryd.prog 21 #[.pointer (some ⟨b, 0, none⟩)] W fun e w' => e = .returned (.string (dropB s p)) ∧ Below W.heap.size W w' := fun W hW => rest_c b s p W hW (by omega) (by omega)
  have hul := dropB_list s p
  have hus := dropB_size s p
  unfold numT
  rw [← hul] at h1 hd ⊢
  generalize dropB s p = u at *
  have hus5 : u.size ≤ 65536 := by omega
  clear hul hus
  obtain ⟨n, hn⟩ : ∃ n, runL isDig u.data.toList = n := ⟨_, rfl⟩
  rw [hn] at h1 hd ⊢
  have hnl : n ≤ u.size := by have := runL_le isDig u.data.toList; rw [hn, ← Lib.size_eq] at this; exact this
  have h2 : n + 1 < u.size := by
    by_cases hc : n + 1 < u.size
    · exact hc
    · rw [dotD_short u n hc] at hd; cases hd
  rw [dotD_get u n h2] at hd
  simp only [Bool.and_eq_true, beq_iff_eq] at hd
  obtain ⟨d1, d2⟩ := hd
  have d1' : ((u[n]).toNat : Int) = 46 := by rw [d1]; rfl
  obtain ⟨m, hm⟩ : ∃ m, runL isDig (u.data.toList.drop (n + 1)) = m := ⟨_, rfl⟩
  rw [hm]
  have hml : n + 1 + m ≤ u.size := by have := runL_le isDig (u.data.toList.drop (n + 1)); rw [hm, List.length_drop, ← Lib.size_eq] at this; omega
  have hex : u.extract (n + 1) u.size = ⟨(u.data.toList.drop (n + 1)).toArray⟩ := by rw [extr, List.take_of_length_le]; rw [List.length_drop, Lib.size_eq]; omega
  have hex2 : u.extract 0 (n + 1 + m) = ⟨(u.data.toList.take (n + 1 + m)).toArray⟩ := by rw [extr]; rfl
  have hrun := hidF hn
  have hrun2 : Hid (runL isDig (⟨(u.data.toList.drop (n + 1)).toArray⟩ : ByteArray).data.toList = m) := hidF hm
  have hsz2 : Hid ((⟨(u.data.toList.drop (n + 1)).toArray⟩ : ByteArray).size ≤ 140737488355328) := hidF (by rw [Lib.size_eq]; simp; omega)
  have hdot : dotD u.data.toList n = true := by rw [dotD_get u n h2, d1, d2]; rfl
  rw [hdot]
  have hD := hidF d2
  by_cases h16 : n + 1 + m ≤ 16
  case' pos => have hdec : decide ((n : Int) + 1 + (m : Int) ≤ 16) = true := decide_eq_true (by omega)
  case' neg => have hdec : decide ((n : Int) + 1 + (m : Int) ≤ 16) = false := decide_eq_false (by omega)
  all_goals
    go_enter Tryd.func47, Tryd.ntmps47
    go_wp2_with (first | (go_at_call 21; (fail_if_success (have := w1)); ((with_reducible refine (cR _ (hS.out.below (by repeat (first | (with_reducible exact Below.refl _ _) | (with_reducible refine below_al ?_ _) | (with_reducible refine below_drewN ?_ _) | (with_reducible refine Below.drew ?_) | (with_reducible refine below_via (by assumption) ?_) | (with_reducible refine below_sc ?_ ?_ _; · (first | (simp; done) | (simp; omega) | omega)))))).mono ?_); rintro e w1 ⟨rfl, hb1⟩; (try (replace hb1 := below_undrew hb1)); (try (replace hb1 := below_undrewN hb1)); obtain ⟨hc1, hf1⟩ := bcell hb1; )) | (go_at_call 72; (fail_if_success (have := w1)); ((with_reducible refine (runDigit_c u n hrun.out _ (by omega)).mono ?_); rintro e w1 ⟨rfl, hb1⟩; (try (replace hb1 := below_undrew hb1)); (try (replace hb1 := below_undrewN hb1)); obtain ⟨hc1, hf1⟩ := bcell hb1; )) | (go_at_call 72; (fail_if_success (have := w1)); ((with_reducible refine (runDigit_c _ m hrun2.out _ hsz2.out).mono ?_); rintro e w1 ⟨rfl, hb1⟩; (try (replace hb1 := below_undrew hb1)); (try (replace hb1 := below_undrewN hb1)); obtain ⟨hc1, hf1⟩ := bcell hb1; )) | (go_at_call 29; (fail_if_success (have := w1)); ((with_reducible refine (isDigit_c _ _).mono ?_); rintro e w1 ⟨rfl, hb1⟩; (try (replace hb1 := below_undrew hb1)); (try (replace hb1 := below_undrewN hb1)); obtain ⟨hc1, hf1⟩ := bcell hb1; )) | (go_at_call 22; (fail_if_success (have := w1)); ((with_reducible refine (must_t b _).mono ?_); rintro e w1 ⟨rfl, hb1⟩; (try (replace hb1 := below_undrew hb1)); (try (replace hb1 := below_undrewN hb1)); obtain ⟨hc1, hf1⟩ := bcell hb1; )) | (go_at_call 22; (fail_if_success (have := w1)); ((with_reducible refine (must_f b s p _ (hS.out.below (by repeat (first | (with_reducible exact Below.refl _ _) | (with_reducible refine below_al ?_ _) | (with_reducible refine below_drewN ?_ _) | (with_reducible refine Below.drew ?_) | (with_reducible refine below_via (by assumption) ?_) | (with_reducible refine below_sc ?_ ?_ _; · (first | (simp; done) | (simp; omega) | omega)))))).mono ?_); rintro e w1 ⟨rfl, hb1⟩; (try (replace hb1 := below_undrew hb1)); (try (replace hb1 := below_undrewN hb1)); obtain ⟨hc1, hf1⟩ := bcell hb1; )) | (go_at_call 21; (fail_if_success (have := w2)); ((with_reducible refine (cR _ (hS.out.below (by repeat (first | (with_reducible exact Below.refl _ _) | (with_reducible refine below_al ?_ _) | (with_reducible refine below_drewN ?_ _) | (with_reducible refine Below.drew ?_) | (with_reducible refine below_via (by assumption) ?_) | (with_reducible refine below_sc ?_ ?_ _; · (first | (simp; done) | (simp; omega) | omega)))))).mono ?_); rintro e w2 ⟨rfl, hb2⟩; (try (replace hb2 := below_undrew hb2)); (try (replace hb2 := below_undrewN hb2)); obtain ⟨hc2, hf2⟩ := bcell hb2; (try (have hz_1_2 : w1.heap.size < w2.heap.size := (by have := hb2.size; (try simp at this); omega))))) | (go_at_call 72; (fail_if_success (have := w2)); ((with_reducible refine (runDigit_c u n hrun.out _ (by omega)).mono ?_); rintro e w2 ⟨rfl, hb2⟩; (try (replace hb2 := below_undrew hb2)); (try (replace hb2 := below_undrewN hb2)); obtain ⟨hc2, hf2⟩ := bcell hb2; (try (have hz_1_2 : w1.heap.size < w2.heap.size := (by have := hb2.size; (try simp at this); omega))))) | (go_at_call 72; (fail_if_success (have := w2)); ((with_reducible refine (runDigit_c _ m hrun2.out _ hsz2.out).mono ?_); rintro e w2 ⟨rfl, hb2⟩; (try (replace hb2 := below_undrew hb2)); (try (replace hb2 := below_undrewN hb2)); obtain ⟨hc2, hf2⟩ := bcell hb2; (try (have hz_1_2 : w1.heap.size < w2.heap.size := (by have := hb2.size; (try simp at this); omega))))) | (go_at_call 29; (fail_if_success (have := w2)); ((with_reducible refine (isDigit_c _ _).mono ?_); rintro e w2 ⟨rfl, hb2⟩; (try (replace hb2 := below_undrew hb2)); (try (replace hb2 := below_undrewN hb2)); obtain ⟨hc2, hf2⟩ := bcell hb2; (try (have hz_1_2 : w1.heap.size < w2.heap.size := (by have := hb2.size; (try simp at this); omega))))) | (go_at_call 22; (fail_if_success (have := w2)); ((with_reducible refine (must_t b _).mono ?_); rintro e w2 ⟨rfl, hb2⟩; (try (replace hb2 := below_undrew hb2)); (try (replace hb2 := below_undrewN hb2)); obtain ⟨hc2, hf2⟩ := bcell hb2; (try (have hz_1_2 : w1.heap.size < w2.heap.size := (by have := hb2.size; (try simp at this); omega))))) | (go_at_call 22; (fail_if_success (have := w2)); ((with_reducible refine (must_f b s p _ (hS.out.below (by repeat (first | (with_reducible exact Below.refl _ _) | (with_reducible refine below_al ?_ _) | (with_reducible refine below_drewN ?_ _) | (with_reducible refine Below.drew ?_) | (with_reducible refine below_via (by assumption) ?_) | (with_reducible refine below_sc ?_ ?_ _; · (first | (simp; done) | (simp; omega) | omega)))))).mono ?_); rintro e w2 ⟨rfl, hb2⟩; (try (replace hb2 := below_undrew hb2)); (try (replace hb2 := below_undrewN hb2)); obtain ⟨hc2, hf2⟩ := bcell hb2; (try (have hz_1_2 : w1.heap.size < w2.heap.size := (by have := hb2.size; (try simp at this); omega))))) | (go_at_call 21; (fail_if_success (have := w3)); ((with_reducible refine (cR _ (hS.out.below (by repeat (first | (with_reducible exact Below.refl _ _) | (with_reducible refine below_al ?_ _) | (with_reducible refine below_drewN ?_ _) | (with_reducible refine Below.drew ?_) | (with_reducible refine below_via (by assumption) ?_) | (with_reducible refine below_sc ?_ ?_ _; · (first | (simp; done) | (simp; omega) | omega)))))).mono ?_); rintro e w3 ⟨rfl, hb3⟩; (try (replace hb3 := below_undrew hb3)); (try (replace hb3 := below_undrewN hb3)); obtain ⟨hc3, hf3⟩ := bcell hb3; (try (have hz_1_3 : w1.heap.size < w3.heap.size := (by have := hb3.size; (try simp at this); omega))); (try (have hz_2_3 : w2.heap.size < w3.heap.size := (by have := hb3.size; (try simp at this); omega))))) | (go_at_call 72; (fail_if_success (have := w3)); ((with_reducible refine (runDigit_c u n hrun.out _ (by omega)).mono ?_); rintro e w3 ⟨rfl, hb3⟩; (try (replace hb3 := below_undrew hb3)); (try (replace hb3 := below_undrewN hb3)); obtain ⟨hc3, hf3⟩ := bcell hb3; (try (have hz_1_3 : w1.heap.size < w3.heap.size := (by have := hb3.size; (try simp at this); omega))); (try (have hz_2_3 : w2.heap.size < w3.heap.size := (by have := hb3.size; (try simp at this); omega))))) | (go_at_call 72; (fail_if_success (have := w3)); ((with_reducible refine (runDigit_c _ m hrun2.out _ hsz2.out).mono ?_); rintro e w3 ⟨rfl, hb3⟩; (try (replace hb3 := below_undrew hb3)); (try (replace hb3 := below_undrewN hb3)); obtain ⟨hc3, hf3⟩ := bcell hb3; (try (have hz_1_3 : w1.heap.size < w3.heap.size := (by have := hb3.size; (try simp at this); omega))); (try (have hz_2_3 : w2.heap.size < w3.heap.size := (by have := hb3.size; (try simp at this); omega))))) | (go_at_call 29; (fail_if_success (have := w3)); ((with_reducible refine (isDigit_c _ _).mono ?_); rintro e w3 ⟨rfl, hb3⟩; (try (replace hb3 := below_undrew hb3)); (try (replace hb3 := below_undrewN hb3)); obtain ⟨hc3, hf3⟩ := bcell hb3; (try (have hz_1_3 : w1.heap.size < w3.heap.size := (by have := hb3.size; (try simp at this); omega))); (try (have hz_2_3 : w2.heap.size < w3.heap.size := (by have := hb3.size; (try simp at this); omega))))) | (go_at_call 22; (fail_if_success (have := w3)); ((with_reducible refine (must_t b _).mono ?_); rintro e w3 ⟨rfl, hb3⟩; (try (replace hb3 := below_undrew hb3)); (try (replace hb3 := below_undrewN hb3)); obtain ⟨hc3, hf3⟩ := bcell hb3; (try (have hz_1_3 : w1.heap.size < w3.heap.size := (by have := hb3.size; (try simp at this); omega))); (try (have hz_2_3 : w2.heap.size < w3.heap.size := (by have := hb3.size; (try simp at this); omega))))) | (go_at_call 22; (fail_if_success (have := w3)); ((with_reducible refine (must_f b s p _ (hS.out.below (by repeat (first | (with_reducible exact Below.refl _ _) | (with_reducible refine below_al ?_ _) | (with_reducible refine below_drewN ?_ _) | (with_reducible refine Below.drew ?_) | (with_reducible refine below_via (by assumption) ?_) | (with_reducible refine below_sc ?_ ?_ _; · (first | (simp; done) | (simp; omega) | omega)))))).mono ?_); rintro e w3 ⟨rfl, hb3⟩; (try (replace hb3 := below_undrew hb3)); (try (replace hb3 := below_undrewN hb3)); obtain ⟨hc3, hf3⟩ := bcell hb3; (try (have hz_1_3 : w1.heap.size < w3.heap.size := (by have := hb3.size; (try simp at this); omega))); (try (have hz_2_3 : w2.heap.size < w3.heap.size := (by have := hb3.size; (try simp at this); omega))))) | (go_at_call 21; (fail_if_success (have := w4)); ((with_reducible refine (cR _ (hS.out.below (by repeat (first | (with_reducible exact Below.refl _ _) | (with_reducible refine below_al ?_ _) | (with_reducible refine below_drewN ?_ _) | (with_reducible refine Below.drew ?_) | (with_reducible refine below_via (by assumption) ?_) | (with_reducible refine below_sc ?_ ?_ _; · (first | (simp; done) | (simp; omega) | omega)))))).mono ?_); rintro e w4 ⟨rfl, hb4⟩; (try (replace hb4 := below_undrew hb4)); (try (replace hb4 := below_undrewN hb4)); obtain ⟨hc4, hf4⟩ := bcell hb4; (try (have hz_1_4 : w1.heap.size < w4.heap.size := (by have := hb4.size; (try simp at this); omega))); (try (have hz_2_4 : w2.heap.size < w4.heap.size := (by have := hb4.size; (try simp at this); omega))); (try (have hz_3_4 : w3.heap.size < w4.heap.size := (by have := hb4.size; (try simp at this); omega))))) | (go_at_call 72; (fail_if_success (have := w4)); ((with_reducible refine (runDigit_c u n hrun.out _ (by omega)).mono ?_); rintro e w4 ⟨rfl, hb4⟩; (try (replace hb4 := below_undrew hb4)); (try (replace hb4 := below_undrewN hb4)); obtain ⟨hc4, hf4⟩ := bcell hb4; (try (have hz_1_4 : w1.heap.size < w4.heap.size := (by have := hb4.size; (try simp at this); omega))); (try (have hz_2_4 : w2.heap.size < w4.heap.size := (by have := hb4.size; (try simp at this); omega))); (try (have hz_3_4 : w3.heap.size < w4.heap.size := (by have := hb4.size; (try simp at this); omega))))) | (go_at_call 72; (fail_if_success (have := w4)); ((with_reducible refine (runDigit_c _ m hrun2.out _ hsz2.out).mono ?_); rintro e w4 ⟨rfl, hb4⟩; (try (replace hb4 := below_undrew hb4)); (try (replace hb4 := below_undrewN hb4)); obtain ⟨hc4, hf4⟩ := bcell hb4; (try (have hz_1_4 : w1.heap.size < w4.heap.size := (by have := hb4.size; (try simp at this); omega))); (try (have hz_2_4 : w2.heap.size < w4.heap.size := (by have := hb4.size; (try simp at this); omega))); (try (have hz_3_4 : w3.heap.size < w4.heap.size := (by have := hb4.size; (try simp at this); omega))))) | (go_at_call 29; (fail_if_success (have := w4)); ((with_reducible refine (isDigit_c _ _).mono ?_); rintro e w4 ⟨rfl, hb4⟩; (try (replace hb4 := below_undrew hb4)); (try (replace hb4 := below_undrewN hb4)); obtain ⟨hc4, hf4⟩ := bcell hb4; (try (have hz_1_4 : w1.heap.size < w4.heap.size := (by have := hb4.size; (try simp at this); omega))); (try (have hz_2_4 : w2.heap.size < w4.heap.size := (by have := hb4.size; (try simp at this); omega))); (try (have hz_3_4 : w3.heap.size < w4.heap.size := (by have := hb4.size; (try simp at this); omega))))) | (go_at_call 22; (fail_if_success (have := w4)); ((with_reducible refine (must_t b _).mono ?_); rintro e w4 ⟨rfl, hb4⟩; (try (replace hb4 := below_undrew hb4)); (try (replace hb4 := below_undrewN hb4)); obtain ⟨hc4, hf4⟩ := bcell hb4; (try (have hz_1_4 : w1.heap.size < w4.heap.size := (by have := hb4.size; (try simp at this); omega))); (try (have hz_2_4 : w2.heap.size < w4.heap.size := (by have := hb4.size; (try simp at this); omega))); (try (have hz_3_4 : w3.heap.size < w4.heap.size := (by have := hb4.size; (try simp at this); omega))))) | (go_at_call 22; (fail_if_success (have := w4)); ((with_reducible refine (must_f b s p _ (hS.out.below (by repeat (first | (with_reducible exact Below.refl _ _) | (with_reducible refine below_al ?_ _) | (with_reducible refine below_drewN ?_ _) | (with_reducible refine Below.drew ?_) | (with_reducible refine below_via (by assumption) ?_) | (with_reducible refine below_sc ?_ ?_ _; · (first | (simp; done) | (simp; omega) | omega)))))).mono ?_); rintro e w4 ⟨rfl, hb4⟩; (try (replace hb4 := below_undrew hb4)); (try (replace hb4 := below_undrewN hb4)); obtain ⟨hc4, hf4⟩ := bcell hb4; (try (have hz_1_4 : w1.heap.size < w4.heap.size := (by have := hb4.size; (try simp at this); omega))); (try (have hz_2_4 : w2.heap.size < w4.heap.size := (by have := hb4.size; (try simp at this); omega))); (try (have hz_3_4 : w3.heap.size < w4.heap.size := (by have := hb4.size; (try simp at this); omega))))) | (go_at_call 21; (fail_if_success (have := w5)); ((with_reducible refine (cR _ (hS.out.below (by repeat (first | (with_reducible exact Below.refl _ _) | (with_reducible refine below_al ?_ _) | (with_reducible refine below_drewN ?_ _) | (with_reducible refine Below.drew ?_) | (with_reducible refine below_via (by assumption) ?_) | (with_reducible refine below_sc ?_ ?_ _; · (first | (simp; done) | (simp; omega) | omega)))))).mono ?_); rintro e w5 ⟨rfl, hb5⟩; (try (replace hb5 := below_undrew hb5)); (try (replace hb5 := below_undrewN hb5)); obtain ⟨hc5, hf5⟩ := bcell hb5; (try (have hz_1_5 : w1.heap.size < w5.heap.size := (by have := hb5.size; (try simp at this); omega))); (try (have hz_2_5 : w2.heap.size < w5.heap.size := (by have := hb5.size; (try simp at this); omega))); (try (have hz_3_5 : w3.heap.size < w5.heap.size := (by have := hb5.size; (try simp at this); omega))); (try (have hz_4_5 : w4.heap.size < w5.heap.size := (by have := hb5.size; (try simp at this); omega))))) | (go_at_call 72; (fail_if_success (have := w5)); ((with_reducible refine (runDigit_c u n hrun.out _ (by omega)).mono ?_); rintro e w5 ⟨rfl, hb5⟩; (try (replace hb5 := below_undrew hb5)); (try (replace hb5 := below_undrewN hb5)); obtain ⟨hc5, hf5⟩ := bcell hb5; (try (have hz_1_5 : w1.heap.size < w5.heap.size := (by have := hb5.size; (try simp at this); omega))); (try (have hz_2_5 : w2.heap.size < w5.heap.size := (by have := hb5.size; (try simp at this); omega))); (try (have hz_3_5 : w3.heap.size < w5.heap.size := (by have := hb5.size; (try simp at this); omega))); (try (have hz_4_5 : w4.heap.size < w5.heap.size := (by have := hb5.size; (try simp at this); omega))))) | (go_at_call 72; (fail_if_success (have := w5)); ((with_reducible refine (runDigit_c _ m hrun2.out _ hsz2.out).mono ?_); rintro e w5 ⟨rfl, hb5⟩; (try (replace hb5 := below_undrew hb5)); (try (replace hb5 := below_undrewN hb5)); obtain ⟨hc5, hf5⟩ := bcell hb5; (try (have hz_1_5 : w1.heap.size < w5.heap.size := (by have := hb5.size; (try simp at this); omega))); (try (have hz_2_5 : w2.heap.size < w5.heap.size := (by have := hb5.size; (try simp at this); omega))); (try (have hz_3_5 : w3.heap.size < w5.heap.size := (by have := hb5.size; (try simp at this); omega))); (try (have hz_4_5 : w4.heap.size < w5.heap.size := (by have := hb5.size; (try simp at this); omega))))) | (go_at_call 29; (fail_if_success (have := w5)); ((with_reducible refine (isDigit_c _ _).mono ?_); rintro e w5 ⟨rfl, hb5⟩; (try (replace hb5 := below_undrew hb5)); (try (replace hb5 := below_undrewN hb5)); obtain ⟨hc5, hf5⟩ := bcell hb5; (try (have hz_1_5 : w1.heap.size < w5.heap.size := (by have := hb5.size; (try simp at this); omega))); (try (have hz_2_5 : w2.heap.size < w5.heap.size := (by have := hb5.size; (try simp at this); omega))); (try (have hz_3_5 : w3.heap.size < w5.heap.size := (by have := hb5.size; (try simp at this); omega))); (try (have hz_4_5 : w4.heap.size < w5.heap.size := (by have := hb5.size; (try simp at this); omega))))) | (go_at_call 22; (fail_if_success (have := w5)); ((with_reducible refine (must_t b _).mono ?_); rintro e w5 ⟨rfl, hb5⟩; (try (replace hb5 := below_undrew hb5)); (try (replace hb5 := below_undrewN hb5)); obtain ⟨hc5, hf5⟩ := bcell hb5; (try (have hz_1_5 : w1.heap.size < w5.heap.size := (by have := hb5.size; (try simp at this); omega))); (try (have hz_2_5 : w2.heap.size < w5.heap.size := (by have := hb5.size; (try simp at this); omega))); (try (have hz_3_5 : w3.heap.size < w5.heap.size := (by have := hb5.size; (try simp at this); omega))); (try (have hz_4_5 : w4.heap.size < w5.heap.size := (by have := hb5.size; (try simp at this); omega))))) | (go_at_call 22; (fail_if_success (have := w5)); ((with_reducible refine (must_f b s p _ (hS.out.below (by repeat (first | (with_reducible exact Below.refl _ _) | (with_reducible refine below_al ?_ _) | (with_reducible refine below_drewN ?_ _) | (with_reducible refine Below.drew ?_) | (with_reducible refine below_via (by assumption) ?_) | (with_reducible refine below_sc ?_ ?_ _; · (first | (simp; done) | (simp; omega) | omega)))))).mono ?_); rintro e w5 ⟨rfl, hb5⟩; (try (replace hb5 := below_undrew hb5)); (try (replace hb5 := below_undrewN hb5)); obtain ⟨hc5, hf5⟩ := bcell hb5; (try (have hz_1_5 : w1.heap.size < w5.heap.size := (by have := hb5.size; (try simp at this); omega))); (try (have hz_2_5 : w2.heap.size < w5.heap.size := (by have := hb5.size; (try simp at this); omega))); (try (have hz_3_5 : w3.heap.size < w5.heap.size := (by have := hb5.size; (try simp at this); omega))); (try (have hz_4_5 : w4.heap.size < w5.heap.size := (by have := hb5.size; (try simp at this); omega))))) | (go_at_call 21; (fail_if_success (have := w6)); ((with_reducible refine (cR _ (hS.out.below (by repeat (first | (with_reducible exact Below.refl _ _) | (with_reducible refine below_al ?_ _) | (with_reducible refine below_drewN ?_ _) | (with_reducible refine Below.drew ?_) | (with_reducible refine below_via (by assumption) ?_) | (with_reducible refine below_sc ?_ ?_ _; · (first | (simp; done) | (simp; omega) | omega)))))).mono ?_); rintro e w6 ⟨rfl, hb6⟩; (try (replace hb6 := below_undrew hb6)); (try (replace hb6 := below_undrewN hb6)); obtain ⟨hc6, hf6⟩ := bcell hb6; (try (have hz_1_6 : w1.heap.size < w6.heap.size := (by have := hb6.size; (try simp at this); omega))); (try (have hz_2_6 : w2.heap.size < w6.heap.size := (by have := hb6.size; (try simp at this); omega))); (try (have hz_3_6 : w3.heap.size < w6.heap.size := (by have := hb6.size; (try simp at this); omega))); (try (have hz_4_6 : w4.heap.size < w6.heap.size := (by have := hb6.size; (try simp at this); omega))); (try (have hz_5_6 : w5.heap.size < w6.heap.size := (by have := hb6.size; (try simp at this); omega))))) | (go_at_call 72; (fail_if_success (have := w6)); ((with_reducible refine (runDigit_c u n hrun.out _ (by omega)).mono ?_); rintro e w6 ⟨rfl, hb6⟩; (try (replace hb6 := below_undrew hb6)); (try (replace hb6 := below_undrewN hb6)); obtain ⟨hc6, hf6⟩ := bcell hb6; (try (have hz_1_6 : w1.heap.size < w6.heap.size := (by have := hb6.size; (try simp at this); omega))); (try (have hz_2_6 : w2.heap.size < w6.heap.size := (by have := hb6.size; (try simp at this); omega))); (try (have hz_3_6 : w3.heap.size < w6.heap.size := (by have := hb6.size; (try simp at this); omega))); (try (have hz_4_6 : w4.heap.size < w6.heap.size := (by have := hb6.size; (try simp at this); omega))); (try (have hz_5_6 : w5.heap.size < w6.heap.size := (by have := hb6.size; (try simp at this); omega))))) | (go_at_call 72; (fail_if_success (have := w6)); ((with_reducible refine (runDigit_c _ m hrun2.out _ hsz2.out).mono ?_); rintro e w6 ⟨rfl, hb6⟩; (try (replace hb6 := below_undrew hb6)); (try (replace hb6 := below_undrewN hb6)); obtain ⟨hc6, hf6⟩ := bcell hb6; (try (have hz_1_6 : w1.heap.size < w6.heap.size := (by have := hb6.size; (try simp at this); omega))); (try (have hz_2_6 : w2.heap.size < w6.heap.size := (by have := hb6.size; (try simp at this); omega))); (try (have hz_3_6 : w3.heap.size < w6.heap.size := (by have := hb6.size; (try simp at this); omega))); (try (have hz_4_6 : w4.heap.size < w6.heap.size := (by have := hb6.size; (try simp at this); omega))); (try (have hz_5_6 : w5.heap.size < w6.heap.size := (by have := hb6.size; (try simp at this); omega))))) | (go_at_call 29; (fail_if_success (have := w6)); ((with_reducible refine (isDigit_c _ _).mono ?_); rintro e w6 ⟨rfl, hb6⟩; (try (replace hb6 := below_undrew hb6)); (try (replace hb6 := below_undrewN hb6)); obtain ⟨hc6, hf6⟩ := bcell hb6; (try (have hz_1_6 : w1.heap.size < w6.heap.size := (by have := hb6.size; (try simp at this); omega))); (try (have hz_2_6 : w2.heap.size < w6.heap.size := (by have := hb6.size; (try simp at this); omega))); (try (have hz_3_6 : w3.heap.size < w6.heap.size := (by have := hb6.size; (try simp at this); omega))); (try (have hz_4_6 : w4.heap.size < w6.heap.size := (by have := hb6.size; (try simp at this); omega))); (try (have hz_5_6 : w5.heap.size < w6.heap.size := (by have := hb6.size; (try simp at this); omega))))) | (go_at_call 22; (fail_if_success (have := w6)); ((with_reducible refine (must_t b _).mono ?_); rintro e w6 ⟨rfl, hb6⟩; (try (replace hb6 := below_undrew hb6)); (try (replace hb6 := below_undrewN hb6)); obtain ⟨hc6, hf6⟩ := bcell hb6; (try (have hz_1_6 : w1.heap.size < w6.heap.size := (by have := hb6.size; (try simp at this); omega))); (try (have hz_2_6 : w2.heap.size < w6.heap.size := (by have := hb6.size; (try simp at this); omega))); (try (have hz_3_6 : w3.heap.size < w6.heap.size := (by have := hb6.size; (try simp at this); omega))); (try (have hz_4_6 : w4.heap.size < w6.heap.size := (by have := hb6.size; (try simp at this); omega))); (try (have hz_5_6 : w5.heap.size < w6.heap.size := (by have := hb6.size; (try simp at this); omega))))) | (go_at_call 22; (fail_if_success (have := w6)); ((with_reducible refine (must_f b s p _ (hS.out.below (by repeat (first | (with_reducible exact Below.refl _ _) | (with_reducible refine below_al ?_ _) | (with_reducible refine below_drewN ?_ _) | (with_reducible refine Below.drew ?_) | (with_reducible refine below_via (by assumption) ?_) | (with_reducible refine below_sc ?_ ?_ _; · (first | (simp; done) | (simp; omega) | omega)))))).mono ?_); rintro e w6 ⟨rfl, hb6⟩; (try (replace hb6 := below_undrew hb6)); (try (replace hb6 := below_undrewN hb6)); obtain ⟨hc6, hf6⟩ := bcell hb6; (try (have hz_1_6 : w1.heap.size < w6.heap.size := (by have := hb6.size; (try simp at this); omega))); (try (have hz_2_6 : w2.heap.size < w6.heap.size := (by have := hb6.size; (try simp at this); omega))); (try (have hz_3_6 : w3.heap.size < w6.heap.size := (by have := hb6.size; (try simp at this); omega))); (try (have hz_4_6 : w4.heap.size < w6.heap.size := (by have := hb6.size; (try simp at this); omega))); (try (have hz_5_6 : w5.heap.size < w6.heap.size := (by have := hb6.size; (try simp at this); omega))))))
    all_goals (first
      | exact ⟨rfl, rfl, (by repeat (first | (with_reducible exact Below.refl _ _) | (with_reducible refine below_al ?_ _) | (with_reducible refine below_drewN ?_ _) | (with_reducible refine Below.drew ?_) | (with_reducible refine below_via (by assumption) ?_) | (with_reducible refine below_sc ?_ ?_ _; · (first | (simp; done) | (simp; omega) | omega))))⟩
      | (go_quiet (fail); go_wp2; (exact bodyPost_ret (v := .tuple #[.int .i64 4, .string ⟨(u.data.toList.take (n + 1 + m)).toArray⟩, .int .i64 ((n + 1 + m : Nat) : Int)]) (by simp [results, Tryd.results47, go_sem, *]) rfl ⟨rfl, (by repeat (first | (with_reducible exact Below.refl _ _) | (with_reducible refine below_al ?_ _) | (with_reducible refine below_drewN ?_ _) | (with_reducible refine Below.drew ?_) | (with_reducible refine below_via (by assumption) ?_) | (with_reducible refine below_sc ?_ ?_ _; · (first | (simp; done) | (simp; omega) | omega))))⟩))
      | trace_state)
end Go.Proofs.YtlaafpbhhnehgaaDoor
end
section
namespace Go.Proofs.YtlaafpbhhnehgaaDoor
set_option linter.unusedVariables false
set_option linter.unusedSimpArgs false
open Go.RowKit
theorem app_l (a b : List UInt8) : (⟨a.toArray⟩ ++ ⟨b.toArray⟩ : ByteArray) = ⟨(a ++ b).toArray⟩ := by apply ByteArray.ext; simp
theorem intOk_cases (t : List UInt8) : (t.length < 19 ∧ intOk t = true) ∨ (t.length = 19 ∧ intOk t = (Op.bytesLess t [57, 50, 50, 51, 51, 55, 50, 48, 51, 54, 56, 53, 52, 55, 55, 53, 56, 48, 55] || t == [57, 50, 50, 51, 51, 55, 50, 48, 51, 54, 56, 53, 52, 55, 55, 53, 56, 48, 55])) ∨ (19 < t.length ∧ intOk t = false) := by
  unfold intOk
  by_cases h1 : t.length < 19
  · left; simp [h1]
  · by_cases h2 : t.length = 19
    · right; left; simp [h2]
    · right; right
      refine ⟨by omega, ?_⟩
      simp [h1, h2]
set_option maxRecDepth 100000 in
set_option maxHeartbeats 4000000 in
theorem number_int (b : Nat) (s : ByteArray) (p : Nat) (w : World) (hs : s.size ≤ 65536) (h : Sc w b s p) (hp : p ≤ s.size) (h1 : 0 < runL isDig (s.data.toList.drop p)) (hd : dotD (s.data.toList.drop p) (runL isDig (s.data.toList.drop p)) = false) :
    Calls Tryd.prog 47 #[.pointer (some ⟨b, 0, none⟩)] w (OutT p (numT (s.data.toList.drop p)) w) := by
  have hS := hidF h
  have hlt := h.lt
  obtain ⟨c0, c1, f1⟩ := h
  have cR : ∀ W, Sc W b s p → Calls Tryd.prog 21 #[.pointer (some ⟨b, 0, none⟩)] W fun e w' => e = .returned (.string (dropB s p)) ∧ Below W.heap.size W w' := fun W hW => rest_c b s p W hW (by omega) (by omega)
  have hul := dropB_list s p
  have hus := dropB_size s p
  unfold numT
  rw [← hul] at h1 hd ⊢
  generalize dropB s p = u at *
  have hus5 : u.size ≤ 65536 := by omega
  clear hul hus
  obtain ⟨n, hn⟩ : ∃ n, runL isDig u.data.toList = n := ⟨_, rfl⟩
  rw [hn] at h1 hd ⊢
  rw [hd]
  have hnl : n ≤ u.size := by have := runL_le isDig u.data.toList; rw [hn, ← Lib.size_eq] at this; exact this
  have hrun := hidF hn
  clear hn
  have hex : u.extract 0 (n - 1) = ⟨(u.data.toList.take (n - 1)).toArray⟩ := by rw [extr]; rfl
  have hex2 : u.extract (n - 1) n = ⟨((u.data.toList.drop (n - 1)).take 1).toArray⟩ := by rw [extr, show n - (n - 1) = 1 by omega]
  have hcat : (⟨(Lib.trimLeftB (u.data.toList.take (n - 1)) 48).toArray⟩ ++ ⟨((u.data.toList.drop (n - 1)).take 1).toArray⟩ : ByteArray) = ⟨(bareN u.data.toList n).toArray⟩ := app_l _ _
  have hl1 : (Lib.trimLeftB (u.data.toList.take (n - 1)) 48).length ≤ 65536 := by
    have h1 := (List.dropWhile_sublist (l := u.data.toList.take (n - 1)) (· == 48)).length_le
    unfold Lib.trimLeftB
    rw [List.length_take] at h1; omega
  have hl2 : ((u.data.toList.drop (n - 1)).take 1).length ≤ 1 := by rw [List.length_take]; omega
  generalize u.data.toList.take (n - 1) = ta at *
  generalize (u.data.toList.drop (n - 1)).take 1 = tb at *
  generalize bareN u.data.toList n = tc at *
  have hx1 : IntKind.i64.wrap ((n : Int) - 1) = ((n - 1 : Nat) : Int) := by rw [IntKind.wrap_i64]; omega
  have hlen : (⟨tc.toArray⟩ : ByteArray).size = tc.length := by rw [Lib.size_eq]
  -- no point
  have key : (¬ n + 1 < u.size) ∨ (∃ h : n + 1 < u.size, ((u[n]).toNat : Int) ≠ 46) ∨ (∃ h : n + 1 < u.size, ((u[n]).toNat : Int) = 46 ∧ isDig ((u[n + 1]).toNat : Int) = false) := by
    by_cases h2 : n + 1 < u.size
    · rw [dotD_get u n h2] at hd
      by_cases h3 : u[n] = 46
      · right; right
        refine ⟨h2, by rw [h3]; rfl, ?_⟩
        rw [h3] at hd; simpa using hd
      · right; left
        refine ⟨h2, fun hc => h3 ?_⟩
        apply UInt8.toNat_inj.1
        have : (u[n]).toNat = 46 := by omega
        rw [this]; rfl
    · exact .inl h2
  clear hd
  rcases intOk_cases tc with ⟨i1, i2⟩ | ⟨i1, i2⟩ | ⟨i1, i2⟩
  case' inr.inl => cases i3 : (Op.bytesLess tc [57, 50, 50, 51, 51, 55, 50, 48, 51, 54, 56, 53, 52, 55, 55, 53, 56, 48, 55] || tc == [57, 50, 50, 51, 51, 55, 50, 48, 51, 54, 56, 53, 52, 55, 55, 53, 56, 48, 55])
  case' inr.inr => have i4 : decide ((tc.length : Int) < 19) = false := decide_eq_false (by omega)
  all_goals (try rw [i3] at i2)
  all_goals rw [i2]
  all_goals rcases key with h2 | ⟨h2, h3⟩ | ⟨h2, h3, h4⟩
  all_goals
    go_enter Tryd.func47, Tryd.ntmps47
    go_wp2_with (first | (go_at_call 21; (fail_if_success (have := w1)); ((with_reducible refine (cR _ (hS.out.below (by repeat (first | (with_reducible exact Below.refl _ _) | (with_reducible refine below_al ?_ _) | (with_reducible refine below_drewN ?_ _) | (with_reducible refine Below.drew ?_) | (with_reducible refine below_via (by assumption) ?_) | (with_reducible refine below_sc ?_ ?_ _; · (first | (simp; done) | (simp; omega) | omega)))))).mono ?_); rintro e w1 ⟨rfl, hb1⟩; (try (replace hb1 := below_undrew hb1)); (try (replace hb1 := below_undrewN hb1)); obtain ⟨hc1, hf1⟩ := bcell hb1; )) | (go_at_call 72; (fail_if_success (have := w1)); ((with_reducible refine (runDigit_c u n hrun.out _ (by omega)).mono ?_); rintro e w1 ⟨rfl, hb1⟩; (try (replace hb1 := below_undrew hb1)); (try (replace hb1 := below_undrewN hb1)); obtain ⟨hc1, hf1⟩ := bcell hb1; )) | (go_at_call 29; (fail_if_success (have := w1)); ((with_reducible refine (isDigit_c _ _).mono ?_); rintro e w1 ⟨rfl, hb1⟩; (try (replace hb1 := below_undrew hb1)); (try (replace hb1 := below_undrewN hb1)); obtain ⟨hc1, hf1⟩ := bcell hb1; )) | (go_at_call 22; (fail_if_success (have := w1)); ((with_reducible refine (must_t b _).mono ?_); rintro e w1 ⟨rfl, hb1⟩; (try (replace hb1 := below_undrew hb1)); (try (replace hb1 := below_undrewN hb1)); obtain ⟨hc1, hf1⟩ := bcell hb1; )) | (go_at_call 22; (fail_if_success (have := w1)); ((with_reducible refine (must_f b s p _ (hS.out.below (by repeat (first | (with_reducible exact Below.refl _ _) | (with_reducible refine below_al ?_ _) | (with_reducible refine below_drewN ?_ _) | (with_reducible refine Below.drew ?_) | (with_reducible refine below_via (by assumption) ?_) | (with_reducible refine below_sc ?_ ?_ _; · (first | (simp; done) | (simp; omega) | omega)))))).mono ?_); rintro e w1 ⟨rfl, hb1⟩; (try (replace hb1 := below_undrew hb1)); (try (replace hb1 := below_undrewN hb1)); obtain ⟨hc1, hf1⟩ := bcell hb1; )) | (go_at_call 21; (fail_if_success (have := w2)); ((with_reducible refine (cR _ (hS.out.below (by repeat (first | (with_reducible exact Below.refl _ _) | (with_reducible refine below_al ?_ _) | (with_reducible refine below_drewN ?_ _) | (with_reducible refine Below.drew ?_) | (with_reducible refine below_via (by assumption) ?_) | (with_reducible refine below_sc ?_ ?_ _; · (first | (simp; done) | (simp; omega) | omega)))))).mono ?_); rintro e w2 ⟨rfl, hb2⟩; (try (replace hb2 := below_undrew hb2)); (try (replace hb2 := below_undrewN hb2)); obtain ⟨hc2, hf2⟩ := bcell hb2; (try (have hz_1_2 : w1.heap.size < w2.heap.size := (by have := hb2.size; (try simp at this); omega))))) | (go_at_call 72; (fail_if_success (have := w2)); ((with_reducible refine (runDigit_c u n hrun.out _ (by omega)).mono ?_); rintro e w2 ⟨rfl, hb2⟩; (try (replace hb2 := below_undrew hb2)); (try (replace hb2 := below_undrewN hb2)); obtain ⟨hc2, hf2⟩ := bcell hb2; (try (have hz_1_2 : w1.heap.size < w2.heap.size := (by have := hb2.size; (try simp at this); omega))))) | (go_at_call 29; (fail_if_success (have := w2)); ((with_reducible refine (isDigit_c _ _).mono ?_); rintro e w2 ⟨rfl, hb2⟩; (try (replace hb2 := below_undrew hb2)); (try (replace hb2 := below_undrewN hb2)); obtain ⟨hc2, hf2⟩ := bcell hb2; (try (have hz_1_2 : w1.heap.size < w2.heap.size := (by have := hb2.size; (try simp at this); omega))))) | (go_at_call 22; (fail_if_success (have := w2)); ((with_reducible refine (must_t b _).mono ?_); rintro e w2 ⟨rfl, hb2⟩; (try (replace hb2 := below_undrew hb2)); (try (replace hb2 := below_undrewN hb2)); obtain ⟨hc2, hf2⟩ := bcell hb2; (try (have hz_1_2 : w1.heap.size < w2.heap.size := (by have := hb2.size; (try simp at this); omega))))) | (go_at_call 22; (fail_if_success (have := w2)); ((with_reducible refine (must_f b s p _ (hS.out.below (by repeat (first | (with_reducible exact Below.refl _ _) | (with_reducible refine below_al ?_ _) | (with_reducible refine below_drewN ?_ _) | (with_reducible refine Below.drew ?_) | (with_reducible refine below_via (by assumption) ?_) | (with_reducible refine below_sc ?_ ?_ _; · (first | (simp; done) | (simp; omega) | omega)))))).mono ?_); rintro e w2 ⟨rfl, hb2⟩; (try (replace hb2 := below_undrew hb2)); (try (replace hb2 := below_undrewN hb2)); obtain ⟨hc2, hf2⟩ := bcell hb2; (try (have hz_1_2 : w1.heap.size < w2.heap.size := (by have := hb2.size; (try simp at this); omega))))) | (go_at_call 21; (fail_if_success (have := w3)); ((with_reducible refine (cR _ (hS.out.below (by repeat (first | (with_reducible exact Below.refl _ _) | (with_reducible refine below_al ?_ _) | (with_reducible refine below_drewN ?_ _) | (with_reducible refine Below.drew ?_) | (with_reducible refine below_via (by assumption) ?_) | (with_reducible refine below_sc ?_ ?_ _; · (first | (simp; done) | (simp; omega) | omega)))))).mono ?_); rintro e w3 ⟨rfl, hb3⟩; (try (replace hb3 := below_undrew hb3)); (try (replace hb3 := below_undrewN hb3)); obtain ⟨hc3, hf3⟩ := bcell hb3; (try (have hz_1_3 : w1.heap.size < w3.heap.size := (by have := hb3.size; (try simp at this); omega))); (try (have hz_2_3 : w2.heap.size < w3.heap.size := (by have := hb3.size; (try simp at this); omega))))) | (go_at_call 72; (fail_if_success (have := w3)); ((with_reducible refine (runDigit_c u n hrun.out _ (by omega)).mono ?_); rintro e w3 ⟨rfl, hb3⟩; (try (replace hb3 := below_undrew hb3)); (try (replace hb3 := below_undrewN hb3)); obtain ⟨hc3, hf3⟩ := bcell hb3; (try (have hz_1_3 : w1.heap.size < w3.heap.size := (by have := hb3.size; (try simp at this); omega))); (try (have hz_2_3 : w2.heap.size < w3.heap.size := (by have := hb3.size; (try simp at this); omega))))) | (go_at_call 29; (fail_if_success (have := w3)); ((with_reducible refine (isDigit_c _ _).mono ?_); rintro e w3 ⟨rfl, hb3⟩; (try (replace hb3 := below_undrew hb3)); (try (replace hb3 := below_undrewN hb3)); obtain ⟨hc3, hf3⟩ := bcell hb3; (try (have hz_1_3 : w1.heap.size < w3.heap.size := (by have := hb3.size; (try simp at this); omega))); (try (have hz_2_3 : w2.heap.size < w3.heap.size := (by have := hb3.size; (try simp at this); omega))))) | (go_at_call 22; (fail_if_success (have := w3)); ((with_reducible refine (must_t b _).mono ?_); rintro e w3 ⟨rfl, hb3⟩; (try (replace hb3 := below_undrew hb3)); (try (replace hb3 := below_undrewN hb3)); obtain ⟨hc3, hf3⟩ := bcell hb3; (try (have hz_1_3 : w1.heap.size < w3.heap.size := (by have := hb3.size; (try simp at this); omega))); (try (have hz_2_3 : w2.heap.size < w3.heap.size := (by have := hb3.size; (try simp at this); omega))))) | (go_at_call 22; (fail_if_success (have := w3)); ((with_reducible refine (must_f b s p _ (hS.out.below (by repeat (first | (with_reducible exact Below.refl _ _) | (with_reducible refine below_al ?_ _) | (with_reducible refine below_drewN ?_ _) | (with_reducible refine Below.drew ?_) | (with_reducible refine below_via (by assumption) ?_) | (with_reducible refine below_sc ?_ ?_ _; · (first | (simp; done) | (simp; omega) | omega)))))).mono ?_); rintro e w3 ⟨rfl, hb3⟩; (try (replace hb3 := below_undrew hb3)); (try (replace hb3 := below_undrewN hb3)); obtain ⟨hc3, hf3⟩ := bcell hb3; (try (have hz_1_3 : w1.heap.size < w3.heap.size := (by have := hb3.size; (try simp at this); omega))); (try (have hz_2_3 : w2.heap.size < w3.heap.size := (by have := hb3.size; (try simp at this); omega))))) | (go_at_call 21; (fail_if_success (have := w4)); ((with_reducible refine (cR _ (hS.out.below (by repeat (first | (with_reducible exact Below.refl _ _) | (with_reducible refine below_al ?_ _) | (with_reducible refine below_drewN ?_ _) | (with_reducible refine Below.drew ?_) | (with_reducible refine below_via (by assumption) ?_) | (with_reducible refine below_sc ?_ ?_ _; · (first | (simp; done) | (simp; omega) | omega)))))).mono ?_); rintro e w4 ⟨rfl, hb4⟩; (try (replace hb4 := below_undrew hb4)); (try (replace hb4 := below_undrewN hb4)); obtain ⟨hc4, hf4⟩ := bcell hb4; (try (have hz_1_4 : w1.heap.size < w4.heap.size := (by have := hb4.size; (try simp at this); omega))); (try (have hz_2_4 : w2.heap.size < w4.heap.size := (by have := hb4.size; (try simp at this); omega))); (try (have hz_3_4 : w3.heap.size < w4.heap.size := (by have := hb4.size; (try simp at this); omega))))) | (go_at_call 72; (fail_if_success (have := w4)); ((with_reducible refine (runDigit_c u n hrun.out _ (by omega)).mono ?_); rintro e w4 ⟨rfl, hb4⟩; (try (replace hb4 := below_undrew hb4)); (try (replace hb4 := below_undrewN hb4)); obtain ⟨hc4, hf4⟩ := bcell hb4; (try (have hz_1_4 : w1.heap.size < w4.heap.size := (by have := hb4.size; (try simp at this); omega))); (try (have hz_2_4 : w2.heap.size < w4.heap.size := (by have := hb4.size; (try simp at this); omega))); (try (have hz_3_4 : w3.heap.size < w4.heap.size := (by have := hb4.size; (try simp at this); omega))))) | (go_at_call 29; (fail_if_success (have := w4)); ((with_reducible refine (isDigit_c _ _).mono ?_); rintro e w4 ⟨rfl, hb4⟩; (try (replace hb4 := below_undrew hb4)); (try (replace hb4 := below_undrewN hb4)); obtain ⟨hc4, hf4⟩ := bcell hb4; (try (have hz_1_4 : w1.heap.size < w4.heap.size := (by have := hb4.size; (try simp at this); omega))); (try (have hz_2_4 : w2.heap.size < w4.heap.size := (by have := hb4.size; (try simp at this); omega))); (try (have hz_3_4 : w3.heap.size < w4.heap.size := (by have := hb4.size; (try simp at this); omega))))) | (go_at_call 22; (fail_if_success (have := w4)); ((with_reducible refine (must_t b _).mono ?_); rintro e w4 ⟨rfl, hb4⟩; (try (replace hb4 := below_undrew hb4)); (try (replace hb4 := below_undrewN hb4)); obtain ⟨hc4, hf4⟩ := bcell hb4; (try (have hz_1_4 : w1.heap.size < w4.heap.size := (by have := hb4.size; (try simp at this); omega))); (try (have hz_2_4 : w2.heap.size < w4.heap.size := (by have := hb4.size; (try simp at this); omega))); (try (have hz_3_4 : w3.heap.size < w4.heap.size := (by have := hb4.size; (try simp at this); omega))))) | (go_at_call 22; (fail_if_success (have := w4)); ((with_reducible refine (must_f b s p _ (hS.out.below (by repeat (first | (with_reducible exact Below.refl _ _) | (with_reducible refine below_al ?_ _) | (with_reducible refine below_drewN ?_ _) | (with_reducible refine Below.drew ?_) | (with_reducible refine below_via (by assumption) ?_) | (with_reducible refine below_sc ?_ ?_ _; · (first | (simp; done) | (simp; omega) | omega)))))).mono ?_); rintro e w4 ⟨rfl, hb4⟩; (try (replace hb4 := below_undrew hb4)); (try (replace hb4 := below_undrewN hb4)); obtain ⟨hc4, hf4⟩ := bcell hb4; (try (have hz_1_4 : w1.heap.size < w4.heap.size := (by have := hb4.size; (try simp at this); omega))); (try (have hz_2_4 : w2.heap.size < w4.heap.size := (by have := hb4.size; (try simp at this); omega))); (try (have hz_3_4 : w3.heap.size < w4.heap.size := (by have := hb4.size; (try simp at this); omega))))) | (go_at_call 21; (fail_if_success (have := w5)); ((with_reducible refine (cR _ (hS.out.below (by repeat (first | (with_reducible exact Below.refl _ _) | (with_reducible refine below_al ?_ _) | (with_reducible refine below_drewN ?_ _) | (with_reducible refine Below.drew ?_) | (with_reducible refine below_via (by assumption) ?_) | (with_reducible refine below_sc ?_ ?_ _; · (first | (simp; done) | (simp; omega) | omega)))))).mono ?_); rintro e w5 ⟨rfl, hb5⟩; (try (replace hb5 := below_undrew hb5)); (try (replace hb5 := below_undrewN hb5)); obtain ⟨hc5, hf5⟩ := bcell hb5; (try (have hz_1_5 : w1.heap.size < w5.heap.size := (by have := hb5.size; (try simp at this); omega))); (try (have hz_2_5 : w2.heap.size < w5.heap.size := (by have := hb5.size; (try simp at this); omega))); (try (have hz_3_5 : w3.heap.size < w5.heap.size := (by have := hb5.size; (try simp at this); omega))); (try (have hz_4_5 : w4.heap.size < w5.heap.size := (by have := hb5.size; (try simp at this); omega))))) | (go_at_call 72; (fail_if_success (have := w5)); ((with_reducible refine (runDigit_c u n hrun.out _ (by omega)).mono ?_); rintro e w5 ⟨rfl, hb5⟩; (try (replace hb5 := below_undrew hb5)); (try (replace hb5 := below_undrewN hb5)); obtain ⟨hc5, hf5⟩ := bcell hb5; (try (have hz_1_5 : w1.heap.size < w5.heap.size := (by have := hb5.size; (try simp at this); omega))); (try (have hz_2_5 : w2.heap.size < w5.heap.size := (by have := hb5.size; (try simp at this); omega))); (try (have hz_3_5 : w3.heap.size < w5.heap.size := (by have := hb5.size; (try simp at this); omega))); (try (have hz_4_5 : w4.heap.size < w5.heap.size := (by have := hb5.size; (try simp at this); omega))))) | (go_at_call 29; (fail_if_success (have := w5)); ((with_reducible refine (isDigit_c _ _).mono ?_); rintro e w5 ⟨rfl, hb5⟩; (try (replace hb5 := below_undrew hb5)); (try (replace hb5 := below_undrewN hb5)); obtain ⟨hc5, hf5⟩ := bcell hb5; (try (have hz_1_5 : w1.heap.size < w5.heap.size := (by have := hb5.size; (try simp at this); omega))); (try (have hz_2_5 : w2.heap.size < w5.heap.size := (by have := hb5.size; (try simp at this); omega))); (try (have hz_3_5 : w3.heap.size < w5.heap.size := (by have := hb5.size; (try simp at this); omega))); (try (have hz_4_5 : w4.heap.size < w5.heap.size := (by have := hb5.size; (try simp at this); omega))))) | (go_at_call 22; (fail_if_success (have := w5)); ((with_reducible refine (must_t b _).mono ?_); rintro e w5 ⟨rfl, hb5⟩; (try (replace hb5 := below_undrew hb5)); (try (replace hb5 := below_undrewN hb5)); obtain ⟨hc5, hf5⟩ := bcell hb5; (try (have hz_1_5 : w1.heap.size < w5.heap.size := (by have := hb5.size; (try simp at this); omega))); (try (have hz_2_5 : w2.heap.size < w5.heap.size := (by have := hb5.size; (try simp at this); omega))); (try (have hz_3_5 : w3.heap.size < w5.heap.size := (by have := hb5.size; (try simp at this); omega))); (try (have hz_4_5 : w4.heap.size < w5.heap.size := (by have := hb5.size; (try simp at this); omega))))) | (go_at_call 22; (fail_if_success (have := w5)); ((with_reducible refine (must_f b s p _ (hS.out.below (by repeat (first | (with_reducible exact Below.refl _ _) | (with_reducible refine below_al ?_ _) | (with_reducible refine below_drewN ?_ _) | (with_reducible refine Below.drew ?_) | (with_reducible refine below_via (by assumption) ?_) | (with_reducible refine below_sc ?_ ?_ _; · (first | (simp; done) | (simp; omega) | omega)))))).mono ?_); rintro e w5 ⟨rfl, hb5⟩; (try (replace hb5 := below_undrew hb5)); (try (replace hb5 := below_undrewN hb5)); obtain ⟨hc5, hf5⟩ := bcell hb5; (try (have hz_1_5 : w1.heap.size < w5.heap.size := (by have := hb5.size; (try simp at this); omega))); (try (have hz_2_5 : w2.heap.size < w5.heap.size := (by have := hb5.size; (try simp at this); omega))); (try (have hz_3_5 : w3.heap.size < w5.heap.size := (by have := hb5.size; (try simp at this); omega))); (try (have hz_4_5 : w4.heap.size < w5.heap.size := (by have := hb5.size; (try simp at this); omega))))) | (go_at_call 21; (fail_if_success (have := w6)); ((with_reducible refine (cR _ (hS.out.below (by repeat (first | (with_reducible exact Below.refl _ _) | (with_reducible refine below_al ?_ _) | (with_reducible refine below_drewN ?_ _) | (with_reducible refine Below.drew ?_) | (with_reducible refine below_via (by assumption) ?_) | (with_reducible refine below_sc ?_ ?_ _; · (first | (simp; done) | (simp; omega) | omega)))))).mono ?_); rintro e w6 ⟨rfl, hb6⟩; (try (replace hb6 := below_undrew hb6)); (try (replace hb6 := below_undrewN hb6)); obtain ⟨hc6, hf6⟩ := bcell hb6; (try (have hz_1_6 : w1.heap.size < w6.heap.size := (by have := hb6.size; (try simp at this); omega))); (try (have hz_2_6 : w2.heap.size < w6.heap.size := (by have := hb6.size; (try simp at this); omega))); (try (have hz_3_6 : w3.heap.size < w6.heap.size := (by have := hb6.size; (try simp at this); omega))); (try (have hz_4_6 : w4.heap.size < w6.heap.size := (by have := hb6.size; (try simp at this); omega))); (try (have hz_5_6 : w5.heap.size < w6.heap.size := (by have := hb6.size; (try simp at this); omega))))) | (go_at_call 72; (fail_if_success (have := w6)); ((with_reducible refine (runDigit_c u n hrun.out _ (by omega)).mono ?_); rintro e w6 ⟨rfl, hb6⟩; (try (replace hb6 := below_undrew hb6)); (try (replace hb6 := below_undrewN hb6)); obtain ⟨hc6, hf6⟩ := bcell hb6; (try (have hz_1_6 : w1.heap.size < w6.heap.size := (by have := hb6.size; (try simp at this); omega))); (try (have hz_2_6 : w2.heap.size < w6.heap.size := (by have := hb6.size; (try simp at this); omega))); (try (have hz_3_6 : w3.heap.size < w6.heap.size := (by have := hb6.size; (try simp at this); omega))); (try (have hz_4_6 : w4.heap.size < w6.heap.size := (by have := hb6.size; (try simp at this); omega))); (try (have hz_5_6 : w5.heap.size < w6.heap.size := (by have := hb6.size; (try simp at this); omega))))) | (go_at_call 29; (fail_if_success (have := w6)); ((with_reducible refine (isDigit_c _ _).mono ?_); rintro e w6 ⟨rfl, hb6⟩; (try (replace hb6 := below_undrew hb6)); (try (replace hb6 := below_undrewN hb6)); obtain ⟨hc6, hf6⟩ := bcell hb6; (try (have hz_1_6 : w1.heap.size < w6.heap.size := (by have := hb6.size; (try simp at this); omega))); (try (have hz_2_6 : w2.heap.size < w6.heap.size := (by have := hb6.size; (try simp at this); omega))); (try (have hz_3_6 : w3.heap.size < w6.heap.size := (by have := hb6.size; (try simp at this); omega))); (try (have hz_4_6 : w4.heap.size < w6.heap.size := (by have := hb6.size; (try simp at this); omega))); (try (have hz_5_6 : w5.heap.size < w6.heap.size := (by have := hb6.size; (try simp at this); omega))))) | (go_at_call 22; (fail_if_success (have := w6)); ((with_reducible refine (must_t b _).mono ?_); rintro e w6 ⟨rfl, hb6⟩; (try (replace hb6 := below_undrew hb6)); (try (replace hb6 := below_undrewN hb6)); obtain ⟨hc6, hf6⟩ := bcell hb6; (try (have hz_1_6 : w1.heap.size < w6.heap.size := (by have := hb6.size; (try simp at this); omega))); (try (have hz_2_6 : w2.heap.size < w6.heap.size := (by have := hb6.size; (try simp at this); omega))); (try (have hz_3_6 : w3.heap.size < w6.heap.size := (by have := hb6.size; (try simp at this); omega))); (try (have hz_4_6 : w4.heap.size < w6.heap.size := (by have := hb6.size; (try simp at this); omega))); (try (have hz_5_6 : w5.heap.size < w6.heap.size := (by have := hb6.size; (try simp at this); omega))))) | (go_at_call 22; (fail_if_success (have := w6)); ((with_reducible refine (must_f b s p _ (hS.out.below (by repeat (first | (with_reducible exact Below.refl _ _) | (with_reducible refine below_al ?_ _) | (with_reducible refine below_drewN ?_ _) | (with_reducible refine Below.drew ?_) | (with_reducible refine below_via (by assumption) ?_) | (with_reducible refine below_sc ?_ ?_ _; · (first | (simp; done) | (simp; omega) | omega)))))).mono ?_); rintro e w6 ⟨rfl, hb6⟩; (try (replace hb6 := below_undrew hb6)); (try (replace hb6 := below_undrewN hb6)); obtain ⟨hc6, hf6⟩ := bcell hb6; (try (have hz_1_6 : w1.heap.size < w6.heap.size := (by have := hb6.size; (try simp at this); omega))); (try (have hz_2_6 : w2.heap.size < w6.heap.size := (by have := hb6.size; (try simp at this); omega))); (try (have hz_3_6 : w3.heap.size < w6.heap.size := (by have := hb6.size; (try simp at this); omega))); (try (have hz_4_6 : w4.heap.size < w6.heap.size := (by have := hb6.size; (try simp at this); omega))); (try (have hz_5_6 : w5.heap.size < w6.heap.size := (by have := hb6.size; (try simp at this); omega))))))
    go_quiet ((go_at_call 41; exact Calls.quiet_of_same (trim48 ta _)))
    go_wp2_with (first | (go_at_call 21; (fail_if_success (have := w1)); ((with_reducible refine (cR _ (hS.out.below (by repeat (first | (with_reducible exact Below.refl _ _) | (with_reducible refine below_al ?_ _) | (with_reducible refine below_drewN ?_ _) | (with_reducible refine Below.drew ?_) | (with_reducible refine below_via (by assumption) ?_) | (with_reducible refine below_sc ?_ ?_ _; · (first | (simp; done) | (simp; omega) | omega)))))).mono ?_); rintro e w1 ⟨rfl, hb1⟩; (try (replace hb1 := below_undrew hb1)); (try (replace hb1 := below_undrewN hb1)); obtain ⟨hc1, hf1⟩ := bcell hb1; )) | (go_at_call 72; (fail_if_success (have := w1)); ((with_reducible refine (runDigit_c u n hrun.out _ (by omega)).mono ?_); rintro e w1 ⟨rfl, hb1⟩; (try (replace hb1 := below_undrew hb1)); (try (replace hb1 := below_undrewN hb1)); obtain ⟨hc1, hf1⟩ := bcell hb1; )) | (go_at_call 29; (fail_if_success (have := w1)); ((with_reducible refine (isDigit_c _ _).mono ?_); rintro e w1 ⟨rfl, hb1⟩; (try (replace hb1 := below_undrew hb1)); (try (replace hb1 := below_undrewN hb1)); obtain ⟨hc1, hf1⟩ := bcell hb1; )) | (go_at_call 22; (fail_if_success (have := w1)); ((with_reducible refine (must_t b _).mono ?_); rintro e w1 ⟨rfl, hb1⟩; (try (replace hb1 := below_undrew hb1)); (try (replace hb1 := below_undrewN hb1)); obtain ⟨hc1, hf1⟩ := bcell hb1; )) | (go_at_call 22; (fail_if_success (have := w1)); ((with_reducible refine (must_f b s p _ (hS.out.below (by repeat (first | (with_reducible exact Below.refl _ _) | (with_reducible refine below_al ?_ _) | (with_reducible refine below_drewN ?_ _) | (with_reducible refine Below.drew ?_) | (with_reducible refine below_via (by assumption) ?_) | (with_reducible refine below_sc ?_ ?_ _; · (first | (simp; done) | (simp; omega) | omega)))))).mono ?_); rintro e w1 ⟨rfl, hb1⟩; (try (replace hb1 := below_undrew hb1)); (try (replace hb1 := below_undrewN hb1)); obtain ⟨hc1, hf1⟩ := bcell hb1; )) | (go_at_call 21; (fail_if_success (have := w2)); ((with_reducible refine (cR _ (hS.out.below (by repeat (first | (with_reducible exact Below.refl _ _) | (with_reducible refine below_al ?_ _) | (with_reducible refine below_drewN ?_ _) | (with_reducible refine Below.drew ?_) | (with_reducible refine below_via (by assumption) ?_) | (with_reducible refine below_sc ?_ ?_ _; · (first | (simp; done) | (simp; omega) | omega)))))).mono ?_); rintro e w2 ⟨rfl, hb2⟩; (try (replace hb2 := below_undrew hb2)); (try (replace hb2 := below_undrewN hb2)); obtain ⟨hc2, hf2⟩ := bcell hb2; (try (have hz_1_2 : w1.heap.size < w2.heap.size := (by have := hb2.size; (try simp at this); omega))))) | (go_at_call 72; (fail_if_success (have := w2)); ((with_reducible refine (runDigit_c u n hrun.out _ (by omega)).mono ?_); rintro e w2 ⟨rfl, hb2⟩; (try (replace hb2 := below_undrew hb2)); (try (replace hb2 := below_undrewN hb2)); obtain ⟨hc2, hf2⟩ := bcell hb2; (try (have hz_1_2 : w1.heap.size < w2.heap.size := (by have := hb2.size; (try simp at this); omega))))) | (go_at_call 29; (fail_if_success (have := w2)); ((with_reducible refine (isDigit_c _ _).mono ?_); rintro e w2 ⟨rfl, hb2⟩; (try (replace hb2 := below_undrew hb2)); (try (replace hb2 := below_undrewN hb2)); obtain ⟨hc2, hf2⟩ := bcell hb2; (try (have hz_1_2 : w1.heap.size < w2.heap.size := (by have := hb2.size; (try simp at this); omega))))) | (go_at_call 22; (fail_if_success (have := w2)); ((with_reducible refine (must_t b _).mono ?_); rintro e w2 ⟨rfl, hb2⟩; (try (replace hb2 := below_undrew hb2)); (try (replace hb2 := below_undrewN hb2)); obtain ⟨hc2, hf2⟩ := bcell hb2; (try (have hz_1_2 : w1.heap.size < w2.heap.size := (by have := hb2.size; (try simp at this); omega))))) | (go_at_call 22; (fail_if_success (have := w2)); ((with_reducible refine (must_f b s p _ (hS.out.below (by repeat (first | (with_reducible exact Below.refl _ _) | (with_reducible refine below_al ?_ _) | (with_reducible refine below_drewN ?_ _) | (with_reducible refine Below.drew ?_) | (with_reducible refine below_via (by assumption) ?_) | (with_reducible refine below_sc ?_ ?_ _; · (first | (simp; done) | (simp; omega) | omega)))))).mono ?_); rintro e w2 ⟨rfl, hb2⟩; (try (replace hb2 := below_undrew hb2)); (try (replace hb2 := below_undrewN hb2)); obtain ⟨hc2, hf2⟩ := bcell hb2; (try (have hz_1_2 : w1.heap.size < w2.heap.size := (by have := hb2.size; (try simp at this); omega))))) | (go_at_call 21; (fail_if_success (have := w3)); ((with_reducible refine (cR _ (hS.out.below (by repeat (first | (with_reducible exact Below.refl _ _) | (with_reducible refine below_al ?_ _) | (with_reducible refine below_drewN ?_ _) | (with_reducible refine Below.drew ?_) | (with_reducible refine below_via (by assumption) ?_) | (with_reducible refine below_sc ?_ ?_ _; · (first | (simp; done) | (simp; omega) | omega)))))).mono ?_); rintro e w3 ⟨rfl, hb3⟩; (try (replace hb3 := below_undrew hb3)); (try (replace hb3 := below_undrewN hb3)); obtain ⟨hc3, hf3⟩ := bcell hb3; (try (have hz_1_3 : w1.heap.size < w3.heap.size := (by have := hb3.size; (try simp at this); omega))); (try (have hz_2_3 : w2.heap.size < w3.heap.size := (by have := hb3.size; (try simp at this); omega))))) | (go_at_call 72; (fail_if_success (have := w3)); ((with_reducible refine (runDigit_c u n hrun.out _ (by omega)).mono ?_); rintro e w3 ⟨rfl, hb3⟩; (try (replace hb3 := below_undrew hb3)); (try (replace hb3 := below_undrewN hb3)); obtain ⟨hc3, hf3⟩ := bcell hb3; (try (have hz_1_3 : w1.heap.size < w3.heap.size := (by have := hb3.size; (try simp at this); omega))); (try (have hz_2_3 : w2.heap.size < w3.heap.size := (by have := hb3.size; (try simp at this); omega))))) | (go_at_call 29; (fail_if_success (have := w3)); ((with_reducible refine (isDigit_c _ _).mono ?_); rintro e w3 ⟨rfl, hb3⟩; (try (replace hb3 := below_undrew hb3)); (try (replace hb3 := below_undrewN hb3)); obtain ⟨hc3, hf3⟩ := bcell hb3; (try (have hz_1_3 : w1.heap.size < w3.heap.size := (by have := hb3.size; (try simp at this); omega))); (try (have hz_2_3 : w2.heap.size < w3.heap.size := (by have := hb3.size; (try simp at this); omega))))) | (go_at_call 22; (fail_if_success (have := w3)); ((with_reducible refine (must_t b _).mono ?_); rintro e w3 ⟨rfl, hb3⟩; (try (replace hb3 := below_undrew hb3)); (try (replace hb3 := below_undrewN hb3)); obtain ⟨hc3, hf3⟩ := bcell hb3; (try (have hz_1_3 : w1.heap.size < w3.heap.size := (by have := hb3.size; (try simp at this); omega))); (try (have hz_2_3 : w2.heap.size < w3.heap.size := (by have := hb3.size; (try simp at this); omega))))) | (go_at_call 22; (fail_if_success (have := w3)); ((with_reducible refine (must_f b s p _ (hS.out.below (by repeat (first | (with_reducible exact Below.refl _ _) | (with_reducible refine below_al ?_ _) | (with_reducible refine below_drewN ?_ _) | (with_reducible refine Below.drew ?_) | (with_reducible refine below_via (by assumption) ?_) | (with_reducible refine below_sc ?_ ?_ _; · (first | (simp; done) | (simp; omega) | omega)))))).mono ?_); rintro e w3 ⟨rfl, hb3⟩; (try (replace hb3 := below_undrew hb3)); (try (replace hb3 := below_undrewN hb3)); obtain ⟨hc3, hf3⟩ := bcell hb3; (try (have hz_1_3 : w1.heap.size < w3.heap.size := (by have := hb3.size; (try simp at this); omega))); (try (have hz_2_3 : w2.heap.size < w3.heap.size := (by have := hb3.size; (try simp at this); omega))))) | (go_at_call 21; (fail_if_success (have := w4)); ((with_reducible refine (cR _ (hS.out.below (by repeat (first | (with_reducible exact Below.refl _ _) | (with_reducible refine below_al ?_ _) | (with_reducible refine below_drewN ?_ _) | (with_reducible refine Below.drew ?_) | (with_reducible refine below_via (by assumption) ?_) | (with_reducible refine below_sc ?_ ?_ _; · (first | (simp; done) | (simp; omega) | omega)))))).mono ?_); rintro e w4 ⟨rfl, hb4⟩; (try (replace hb4 := below_undrew hb4)); (try (replace hb4 := below_undrewN hb4)); obtain ⟨hc4, hf4⟩ := bcell hb4; (try (have hz_1_4 : w1.heap.size < w4.heap.size := (by have := hb4.size; (try simp at this); omega))); (try (have hz_2_4 : w2.heap.size < w4.heap.size := (by have := hb4.size; (try simp at this); omega))); (try (have hz_3_4 : w3.heap.size < w4.heap.size := (by have := hb4.size; (try simp at this); omega))))) | (go_at_call 72; (fail_if_success (have := w4)); ((with_reducible refine (runDigit_c u n hrun.out _ (by omega)).mono ?_); rintro e w4 ⟨rfl, hb4⟩; (try (replace hb4 := below_undrew hb4)); (try (replace hb4 := below_undrewN hb4)); obtain ⟨hc4, hf4⟩ := bcell hb4; (try (have hz_1_4 : w1.heap.size < w4.heap.size := (by have := hb4.size; (try simp at this); omega))); (try (have hz_2_4 : w2.heap.size < w4.heap.size := (by have := hb4.size; (try simp at this); omega))); (try (have hz_3_4 : w3.heap.size < w4.heap.size := (by have := hb4.size; (try simp at this); omega))))) | (go_at_call 29; (fail_if_success (have := w4)); ((with_reducible refine (isDigit_c _ _).mono ?_); rintro e w4 ⟨rfl, hb4⟩; (try (replace hb4 := below_undrew hb4)); (try (replace hb4 := below_undrewN hb4)); obtain ⟨hc4, hf4⟩ := bcell hb4; (try (have hz_1_4 : w1.heap.size < w4.heap.size := (by have := hb4.size; (try simp at this); omega))); (try (have hz_2_4 : w2.heap.size < w4.heap.size := (by have := hb4.size; (try simp at this); omega))); (try (have hz_3_4 : w3.heap.size < w4.heap.size := (by have := hb4.size; (try simp at this); omega))))) | (go_at_call 22; (fail_if_success (have := w4)); ((with_reducible refine (must_t b _).mono ?_); rintro e w4 ⟨rfl, hb4⟩; (try (replace hb4 := below_undrew hb4)); (try (replace hb4 := below_undrewN hb4)); obtain ⟨hc4, hf4⟩ := bcell hb4; (try (have hz_1_4 : w1.heap.size < w4.heap.size := (by have := hb4.size; (try simp at this); omega))); (try (have hz_2_4 : w2.heap.size < w4.heap.size := (by have := hb4.size; (try simp at this); omega))); (try (have hz_3_4 : w3.heap.size < w4.heap.size := (by have := hb4.size; (try simp at this); omega))))) | (go_at_call 22; (fail_if_success (have := w4)); ((with_reducible refine (must_f b s p _ (hS.out.below (by repeat (first | (with_reducible exact Below.refl _ _) | (with_reducible refine below_al ?_ _) | (with_reducible refine below_drewN ?_ _) | (with_reducible refine Below.drew ?_) | (with_reducible refine below_via (by assumption) ?_) | (with_reducible refine below_sc ?_ ?_ _; · (first | (simp; done) | (simp; omega) | omega)))))).mono ?_); rintro e w4 ⟨rfl, hb4⟩; (try (replace hb4 := below_undrew hb4)); (try (replace hb4 := below_undrewN hb4)); obtain ⟨hc4, hf4⟩ := bcell hb4; (try (have hz_1_4 : w1.heap.size < w4.heap.size := (by have := hb4.size; (try simp at this); omega))); (try (have hz_2_4 : w2.heap.size < w4.heap.size := (by have := hb4.size; (try simp at this); omega))); (try (have hz_3_4 : w3.heap.size < w4.heap.size := (by have := hb4.size; (try simp at this); omega))))) | (go_at_call 21; (fail_if_success (have := w5)); ((with_reducible refine (cR _ (hS.out.below (by repeat (first | (with_reducible exact Below.refl _ _) | (with_reducible refine below_al ?_ _) | (with_reducible refine below_drewN ?_ _) | (with_reducible refine Below.drew ?_) | (with_reducible refine below_via (by assumption) ?_) | (with_reducible refine below_sc ?_ ?_ _; · (first | (simp; done) | (simp; omega) | omega)))))).mono ?_); rintro e w5 ⟨rfl, hb5⟩; (try (replace hb5 := below_undrew hb5)); (try (replace hb5 := below_undrewN hb5)); obtain ⟨hc5, hf5⟩ := bcell hb5; (try (have hz_1_5 : w1.heap.size < w5.heap.size := (by have := hb5.size; (try simp at this); omega))); (try (have hz_2_5 : w2.heap.size < w5.heap.size := (by have := hb5.size; (try simp at this); omega))); (try (have hz_3_5 : w3.heap.size < w5.heap.size := (by have := hb5.size; (try simp at this); omega))); (try (have hz_4_5 : w4.heap.size < w5.heap.size := (by have := hb5.size; (try simp at this); omega))))) | (go_at_call 72; (fail_if_success (have := w5)); ((with_reducible refine (runDigit_c u n hrun.out _ (by omega)).mono ?_); rintro e w5 ⟨rfl, hb5⟩; (try (replace hb5 := below_undrew hb5)); (try (replace hb5 := below_undrewN hb5)); obtain ⟨hc5, hf5⟩ := bcell hb5; (try (have hz_1_5 : w1.heap.size < w5.heap.size := (by have := hb5.size; (try simp at this); omega))); (try (have hz_2_5 : w2.heap.size < w5.heap.size := (by have := hb5.size; (try simp at this); omega))); (try (have hz_3_5 : w3.heap.size < w5.heap.size := (by have := hb5.size; (try simp at this); omega))); (try (have hz_4_5 : w4.heap.size < w5.heap.size := (by have := hb5.size; (try simp at this); omega))))) | (go_at_call 29; (fail_if_success (have := w5)); ((with_reducible refine (isDigit_c _ _).mono ?_); rintro e w5 ⟨rfl, hb5⟩; (try (replace hb5 := below_undrew hb5)); (try (replace hb5 := below_undrewN hb5)); obtain ⟨hc5, hf5⟩ := bcell hb5; (try (have hz_1_5 : w1.heap.size < w5.heap.size := (by have := hb5.size; (try simp at this); omega))); (try (have hz_2_5 : w2.heap.size < w5.heap.size := (by have := hb5.size; (try simp at this); omega))); (try (have hz_3_5 : w3.heap.size < w5.heap.size := (by have := hb5.size; (try simp at this); omega))); (try (have hz_4_5 : w4.heap.size < w5.heap.size := (by have := hb5.size; (try simp at this); omega))))) | (go_at_call 22; (fail_if_success (have := w5)); ((with_reducible refine (must_t b _).mono ?_); rintro e w5 ⟨rfl, hb5⟩; (try (replace hb5 := below_undrew hb5)); (try (replace hb5 := below_undrewN hb5)); obtain ⟨hc5, hf5⟩ := bcell hb5; (try (have hz_1_5 : w1.heap.size < w5.heap.size := (by have := hb5.size; (try simp at this); omega))); (try (have hz_2_5 : w2.heap.size < w5.heap.size := (by have := hb5.size; (try simp at this); omega))); (try (have hz_3_5 : w3.heap.size < w5.heap.size := (by have := hb5.size; (try simp at this); omega))); (try (have hz_4_5 : w4.heap.size < w5.heap.size := (by have := hb5.size; (try simp at this); omega))))) | (go_at_call 22; (fail_if_success (have := w5)); ((with_reducible refine (must_f b s p _ (hS.out.below (by repeat (first | (with_reducible exact Below.refl _ _) | (with_reducible refine below_al ?_ _) | (with_reducible refine below_drewN ?_ _) | (with_reducible refine Below.drew ?_) | (with_reducible refine below_via (by assumption) ?_) | (with_reducible refine below_sc ?_ ?_ _; · (first | (simp; done) | (simp; omega) | omega)))))).mono ?_); rintro e w5 ⟨rfl, hb5⟩; (try (replace hb5 := below_undrew hb5)); (try (replace hb5 := below_undrewN hb5)); obtain ⟨hc5, hf5⟩ := bcell hb5; (try (have hz_1_5 : w1.heap.size < w5.heap.size := (by have := hb5.size; (try simp at this); omega))); (try (have hz_2_5 : w2.heap.size < w5.heap.size := (by have := hb5.size; (try simp at this); omega))); (try (have hz_3_5 : w3.heap.size < w5.heap.size := (by have := hb5.size; (try simp at this); omega))); (try (have hz_4_5 : w4.heap.size < w5.heap.size := (by have := hb5.size; (try simp at this); omega))))) | (go_at_call 21; (fail_if_success (have := w6)); ((with_reducible refine (cR _ (hS.out.below (by repeat (first | (with_reducible exact Below.refl _ _) | (with_reducible refine below_al ?_ _) | (with_reducible refine below_drewN ?_ _) | (with_reducible refine Below.drew ?_) | (with_reducible refine below_via (by assumption) ?_) | (with_reducible refine below_sc ?_ ?_ _; · (first | (simp; done) | (simp; omega) | omega)))))).mono ?_); rintro e w6 ⟨rfl, hb6⟩; (try (replace hb6 := below_undrew hb6)); (try (replace hb6 := below_undrewN hb6)); obtain ⟨hc6, hf6⟩ := bcell hb6; (try (have hz_1_6 : w1.heap.size < w6.heap.size := (by have := hb6.size; (try simp at this); omega))); (try (have hz_2_6 : w2.heap.size < w6.heap.size := (by have := hb6.size; (try simp at this); omega))); (try (have hz_3_6 : w3.heap.size < w6.heap.size := (by have := hb6.size; (try simp at this); omega))); (try (have hz_4_6 : w4.heap.size < w6.heap.size := (by have := hb6.size; (try simp at this); omega))); (try (have hz_5_6 : w5.heap.size < w6.heap.size := (by have := hb6.size; (try simp at this); omega))))) | (go_at_call 72; (fail_if_success (have := w6)); ((with_reducible refine (runDigit_c u n hrun.out _ (by omega)).mono ?_); rintro e w6 ⟨rfl, hb6⟩; (try (replace hb6 := below_undrew hb6)); (try (replace hb6 := below_undrewN hb6)); obtain ⟨hc6, hf6⟩ := bcell hb6; (try (have hz_1_6 : w1.heap.size < w6.heap.size := (by have := hb6.size; (try simp at this); omega))); (try (have hz_2_6 : w2.heap.size < w6.heap.size := (by have := hb6.size; (try simp at this); omega))); (try (have hz_3_6 : w3.heap.size < w6.heap.size := (by have := hb6.size; (try simp at this); omega))); (try (have hz_4_6 : w4.heap.size < w6.heap.size := (by have := hb6.size; (try simp at this); omega))); (try (have hz_5_6 : w5.heap.size < w6.heap.size := (by have := hb6.size; (try simp at this); omega))))) | (go_at_call 29; (fail_if_success (have := w6)); ((with_reducible refine (isDigit_c _ _).mono ?_); rintro e w6 ⟨rfl, hb6⟩; (try (replace hb6 := below_undrew hb6)); (try (replace hb6 := below_undrewN hb6)); obtain ⟨hc6, hf6⟩ := bcell hb6; (try (have hz_1_6 : w1.heap.size < w6.heap.size := (by have := hb6.size; (try simp at this); omega))); (try (have hz_2_6 : w2.heap.size < w6.heap.size := (by have := hb6.size; (try simp at this); omega))); (try (have hz_3_6 : w3.heap.size < w6.heap.size := (by have := hb6.size; (try simp at this); omega))); (try (have hz_4_6 : w4.heap.size < w6.heap.size := (by have := hb6.size; (try simp at this); omega))); (try (have hz_5_6 : w5.heap.size < w6.heap.size := (by have := hb6.size; (try simp at this); omega))))) | (go_at_call 22; (fail_if_success (have := w6)); ((with_reducible refine (must_t b _).mono ?_); rintro e w6 ⟨rfl, hb6⟩; (try (replace hb6 := below_undrew hb6)); (try (replace hb6 := below_undrewN hb6)); obtain ⟨hc6, hf6⟩ := bcell hb6; (try (have hz_1_6 : w1.heap.size < w6.heap.size := (by have := hb6.size; (try simp at this); omega))); (try (have hz_2_6 : w2.heap.size < w6.heap.size := (by have := hb6.size; (try simp at this); omega))); (try (have hz_3_6 : w3.heap.size < w6.heap.size := (by have := hb6.size; (try simp at this); omega))); (try (have hz_4_6 : w4.heap.size < w6.heap.size := (by have := hb6.size; (try simp at this); omega))); (try (have hz_5_6 : w5.heap.size < w6.heap.size := (by have := hb6.size; (try simp at this); omega))))) | (go_at_call 22; (fail_if_success (have := w6)); ((with_reducible refine (must_f b s p _ (hS.out.below (by repeat (first | (with_reducible exact Below.refl _ _) | (with_reducible refine below_al ?_ _) | (with_reducible refine below_drewN ?_ _) | (with_reducible refine Below.drew ?_) | (with_reducible refine below_via (by assumption) ?_) | (with_reducible refine below_sc ?_ ?_ _; · (first | (simp; done) | (simp; omega) | omega)))))).mono ?_); rintro e w6 ⟨rfl, hb6⟩; (try (replace hb6 := below_undrew hb6)); (try (replace hb6 := below_undrewN hb6)); obtain ⟨hc6, hf6⟩ := bcell hb6; (try (have hz_1_6 : w1.heap.size < w6.heap.size := (by have := hb6.size; (try simp at this); omega))); (try (have hz_2_6 : w2.heap.size < w6.heap.size := (by have := hb6.size; (try simp at this); omega))); (try (have hz_3_6 : w3.heap.size < w6.heap.size := (by have := hb6.size; (try simp at this); omega))); (try (have hz_4_6 : w4.heap.size < w6.heap.size := (by have := hb6.size; (try simp at this); omega))); (try (have hz_5_6 : w5.heap.size < w6.heap.size := (by have := hb6.size; (try simp at this); omega))))))
    all_goals (first
      | exact ⟨rfl, rfl, (by repeat (first | (with_reducible exact Below.refl _ _) | (with_reducible refine below_al ?_ _) | (with_reducible refine below_drewN ?_ _) | (with_reducible refine Below.drew ?_) | (with_reducible refine below_via (by assumption) ?_) | (with_reducible refine below_sc ?_ ?_ _; · (first | (simp; done) | (simp; omega) | omega))))⟩
      | (exact bodyPost_ret (v := .tuple #[.int .i64 3, .string ⟨tc.toArray⟩, .int .i64 n]) (by simp [results, Tryd.results47, go_sem, *]) rfl ⟨rfl, (by repeat (first | (with_reducible exact Below.refl _ _) | (with_reducible refine below_al ?_ _) | (with_reducible refine below_drewN ?_ _) | (with_reducible refine Below.drew ?_) | (with_reducible refine below_via (by assumption) ?_) | (with_reducible refine below_sc ?_ ?_ _; · (first | (simp; done) | (simp; omega) | omega))))⟩)
      | trace_state)
end Go.Proofs.YtlaafpbhhnehgaaDoor
end
section
namespace Go.Proofs.YtlaafpbhhnehgaaDoor
set_option linter.unusedVariables false
set_option linter.unusedSimpArgs false
open Go.RowKit
/-- what stands between quotes q, read behind the first of them, and how many letters that takes -/
def betL (q : UInt8) : List UInt8 → Option (List UInt8 × Nat)
  | [] => none
  | [c] => if c = q then some ([], 1) else none
  | c :: d :: t => if c = q then (if d = q then (betL q t).map (fun r => (q :: r.1, r.2 + 2)) else some ([], 1)) else (betL q (d :: t)).map (fun r => (c :: r.1, r.2 + 1))
theorem betL_ne (q c : UInt8) (t : List UInt8) (h : c ≠ q) : betL q (c :: t) = (betL q t).map (fun r => (c :: r.1, r.2 + 1)) := by
  match t with
  | [] => simp [betL, h]
  | d :: t => simp [betL, h]
theorem betL_two (q : UInt8) (t : List UInt8) : betL q (q :: q :: t) = (betL q t).map (fun r => (q :: r.1, r.2 + 2)) := by simp [betL]
theorem betL_end (q : UInt8) (t : List UInt8) (h : Lib.hasPrefix t [q] = false) : betL q (q :: t) = some ([], 1) := by
  match t, h with
  | [], _ => simp [betL]
  | d :: t, h =>
    have : d ≠ q := by rintro rfl; simp [Lib.hasPrefix, List.isPrefixOf] at h
    simp [betL, this]
theorem pre1 {a : UInt8} {l : List UInt8} (h : Lib.hasPrefix l [a] = true) : ∃ t, l = a :: t := by
  match l, h with
  | [], h => simp [Lib.hasPrefix, List.isPrefixOf] at h
  | x :: t, h =>
    simp [Lib.hasPrefix, List.isPrefixOf] at h
    exact ⟨t, by rw [h]⟩
theorem hp1 (l : List UInt8) (c : UInt8) {r : Bool} (h : Lib.hasPrefix l [c] = r) (w : World) :
    Calls Tryd.prog 42 #[.string ⟨l.toArray⟩, .string ⟨#[c]⟩] w fun e w' => e = .returned (.bool r) ∧ w' = w := by
  subst h; exact Tryd.strings_HasPrefix ⟨l.toArray⟩ ⟨#[c]⟩ w
/-- what between answers -/
def OutB (p : Int) (r : Option (List UInt8 × Nat)) (w : World) (e : Ending) (w' : World) : Prop :=
  (match r with
    | some (t, m) => e = .returned (.tuple #[.string ⟨t.toArray⟩, .int .i64 ((m + 1 : Nat) : Int)])
    | none => e = .panicked (fl p)) ∧ Below w.heap.size w w'
theorem bld_drewN {B b : Nat} {l : List UInt8} {w : World} (h : Bld B b l w) (n : Nat) : Bld B b l (w.drewN n) := h
def intOf : Value → Int
  | .int _ n => n
  | _ => 0
set_option maxRecDepth 100000 in
set_option maxHeartbeats 4000000 in
theorem between_c (b : Nat) (s : ByteArray) (p : Nat) (w : World) (hs : s.size ≤ 65536) (h : Sc w b s p) (hp : p ≤ s.size) (c0 : UInt8) (tl : List UInt8) (hc : s.data.toList.drop p = c0 :: tl) :
    Calls Tryd.prog 48 #[.pointer (some ⟨b, 0, none⟩)] w (OutB p (betL c0 tl) w) := by
  have hS := hidF h
  have hlt := h.lt
  obtain ⟨k0, k1, f1⟩ := h
  have cR : ∀ W, Sc W b s p → Calls Tryd.prog 21 #[.pointer (some ⟨b, 0, none⟩)] W fun e w' => e = .returned (.string (dropB s p)) ∧ Below W.heap.size W w' := fun W hW => rest_c b s p W hW (by omega) (by omega)
  have hul := dropB_list s p
  have hus := dropB_size s p
  generalize dropB s p = u at *
  rw [hc] at hul
  have hus5 : u.size ≤ 65536 := by omega
  have hu1 : 1 ≤ u.size := by rw [Lib.size_eq, hul]; simp
  have hq : u.extract 0 1 = ⟨#[c0]⟩ := by rw [extr, hul]; rfl
  have htl : u.data.toList.drop 1 = tl := by rw [hul]; rfl
  clear hul hus hc
  go_enter Tryd.func48, Tryd.ntmps48
  go_wp2_with (go_at_call 21; (with_reducible refine (cR _ hS.out).mono ?_); rintro e w1 ⟨rfl, hb1⟩)
  have hnew := hidF (bld_new w1)
  have hB1 : Below w1.heap.size w1 (w1.alloc (.cells #[.pointer none, .slice none 0 0] 76)) := below_box w1 _
  have hz1 : w.heap.size ≤ w1.heap.size := hb1.size
  go_loopw [7] (fun i wr => ∃ (n : Nat) (acc : List UInt8), 1 ≤ n ∧ n ≤ u.size ∧ acc.length ≤ n ∧ i = .int .i64 n ∧ Bld w1.heap.size w1.heap.size acc wr ∧ Below w1.heap.size w1 wr ∧ w1.heap.size < wr.heap.size ∧ betL c0 tl = (betL c0 (u.data.toList.drop n)).map (fun r => (acc ++ r.1, n - 1 + r.2))) (fun i _ => u.size + 1 - (intOf i).toNat)
  case atStart => exact ⟨1, [], Nat.le_refl _, hu1, by simp, rfl, hnew.out, hB1, by simp, by rw [htl]; cases betL c0 tl <;> simp⟩
  case round =>
    obtain ⟨n, acc, hn1, hnu, hal, rfl, hBd, hBel, hzr, he⟩ := hrel
    have HBel := hidF hBel
    have hBw : Below w.heap.size w wr := hb1.trans (hBel.mono hz1)
    have hS2 := hidF (hS.out.below hBw)
    have HBd := hidF hBd
    have HBw := hidF hBw
    have Hb1 := hidF hb1
    clear hBel hBd hB1 hBw hb1
    by_cases hlt2 : n < u.size
    · rw [get_lt hlt2] at he
      have hi1 : IntKind.i64.wrap ((n : Int) + 1) = (n : Int) + 1 := IntWalk.i64_in _ (by omega)
      by_cases hcq : u[n] = c0
      · have hd : (((u[n]).toNat : Int) != (((⟨#[c0]⟩ : ByteArray)[0]'Nat.zero_lt_one).toNat : Int)) = false := by rw [hcq]; show ((c0.toNat : Int) != c0.toNat) = false; simp
        have hex : u.extract (n + 1) u.size = ⟨(u.data.toList.drop (n + 1)).toArray⟩ := by rw [extr, List.take_of_length_le]; rw [List.length_drop, Lib.size_eq]; omega
        cases hpx : Lib.hasPrefix (u.data.toList.drop (n + 1)) [c0]
        · have hend := betL_end c0 _ hpx
          rw [hcq, hend] at he
          have he2 : Hid (betL c0 tl = some (acc, n)) := hidF (by rw [he]; simp; omega)
          clear he hend hcq
          go_wp2_with fail
          go_quiet (fail)
          go_wp2_with (first | (go_at_call 42; (with_reducible refine (hp1 _ _ hpx _).mono ?_); rintro e w' ⟨rfl, rfl⟩) | (go_at_call 58; (refine (string_b w1.heap.size w1.heap.size acc _ (bld_drewN HBd.out _) (by simp; omega)).mono ?_); rintro e w2 ⟨rfl, hb2⟩))
          exact bodyPost_ret (v := .tuple #[.string ⟨acc.toArray⟩, .int .i64 ((n + 1 : Nat) : Int)]) (by simp [results, Tryd.results48, go_sem]) rfl (by rw [he2.out]; exact ⟨rfl, (below_drewN HBw.out _).trans (hb2.mono hz1)⟩)
        · have htw : ∃ t2, u.data.toList.drop (n + 1) = c0 :: t2 := pre1 hpx
          obtain ⟨t2, ht2⟩ := htw
          have hn2 : n + 2 ≤ u.size := by
            have := congrArg List.length ht2
            rw [List.length_drop, ← Lib.size_eq] at this; simp at this; omega
          have ht3 : u.data.toList.drop (n + 2) = t2 := by rw [show n + 2 = (n + 1) + 1 by omega, ← List.drop_drop, ht2]; rfl
          rw [hcq, ht2, betL_two, ← ht3] at he
          have HE := hidF he
          clear he ht2 ht3 hcq
          have hi2 : IntKind.i64.wrap ((n : Int) + 1 + 1) = (n : Int) + 1 + 1 := IntWalk.i64_in _ (by omega)
          go_wp2_with fail
          go_quiet (fail)
          go_wp2_with (first | (go_at_call 42; (with_reducible refine (hp1 _ _ hpx _).mono ?_); rintro e w' ⟨rfl, rfl⟩) | (go_at_call 56; (refine (writeString_c w1.heap.size w1.heap.size acc ⟨#[c0]⟩ _ (bld_drewN HBd.out _) (by show _ + 1 ≤ _; omega) (by simp; omega)).mono ?_); rintro e w2 ⟨rfl, hB2, hb2⟩))
          go_roundw
          case rel => exact ⟨n + 2, acc ++ [c0], by omega, by omega, by simp; omega, by go_num, hB2, (below_drewN HBel.out _).trans hb2, by have := hb2.size; simp at this; omega, by rw [HE.out]; cases betL c0 (u.data.toList.drop (n + 2)) <;> simp; omega⟩
          case measure => simp [intOf]; omega
      · have hd : (((u[n]).toNat : Int) != (((⟨#[c0]⟩ : ByteArray)[0]'Nat.zero_lt_one).toNat : Int)) = true := by
          show (((u[n]).toNat : Int) != (c0.toNat : Int)) = true
          have hne : (u[n]).toNat ≠ c0.toNat := fun hh => hcq (UInt8.toNat_inj.1 hh)
          simp; omega
        rw [betL_ne _ _ _ hcq] at he
        have HE := hidF he
        clear he
        go_wp2_with fail
        go_quiet (fail)
        go_wp2_with (go_at_call 57; go_loud (refine (writeByte_c w1.heap.size w1.heap.size acc u[n] _ (bld_drewN HBd.out _) (by omega) (by simp; omega)).mono ?_); rintro e w2 ⟨rfl, hB2, hb2⟩)
        go_roundw
        case rel => exact ⟨n + 1, acc ++ [u[n]], by omega, by omega, by simp; omega, by go_num, hB2, (below_drewN HBel.out _).trans hb2, by have := hb2.size; simp at this; omega, by rw [HE.out]; cases betL c0 (u.data.toList.drop (n + 1)) <;> simp; omega⟩
        case measure => simp [intOf]; omega
    · have hne : n = u.size := by omega
      have hnil : betL c0 tl = none := by rw [he, hne, List.drop_of_length_le (by rw [Lib.size_eq]; exact Nat.le_refl _)]; rfl
      have HN := hidF hnil
      clear he hnil
      obtain ⟨d0, d1, g1⟩ := hS2.out
      go_wp2_with fail
      refine ⟨rfl, ?_⟩
      rw [HN.out]
      exact ⟨rfl, HBw.out⟩
end Go.Proofs.YtlaafpbhhnehgaaDoor
end
