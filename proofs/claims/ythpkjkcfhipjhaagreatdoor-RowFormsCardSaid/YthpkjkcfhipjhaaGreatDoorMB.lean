/- A strings.Builder that a call has made: what its writers do (lines of the library's own proofs, turned to this translation). A text between quotes, as val writes it. A text's spelling; the closed conditions that every law asks first. Plain laws of the steps: whatever a step answers is a value. No program in sight. Plain laws of the order of values. The document's answer: Plain, Sound, the constructors, the order. The document's order of values. The document's order of values is the program's. -/
import Derived.Test.YthpkjkcfhipjhaaGreatDoorMA
import Derived.Test.YthpkjkcfhipjhaaGreatDoorShelf
import Derived.Lib.Builder
import Derived.Lib.AppendStr
import Derived.Lib.UnsafeStr
import Derived.RegionTactic
import Derived.StillTailTactics
import Derived.Deep.RegionWith
import Derived.BigQuiet
import Derived.Lib.ItoaLen
import Derived.Lib.VarintBits
import Derived.Lib.Zigzag
namespace Go.Proofs.YthpkjkcfhipjhaaGreatDoor
set_option linter.unusedVariables false
set_option linter.unusedSimpArgs false
open Go.RowKit

theorem sizeBuilder : (Tryz.prog.info? 80).map (·.size) = some 2 := by kernel_rfl
theorem liesBuilder : liesAt Tryz.prog Tryz.prog.depth 80 (2 / Tryz.prog.cellsOf 80) 0 80 1 = true := by kernel_rfl
theorem infoByte : (Tryz.prog.info? 5).map (fun i => (i.zero, i.size, i.bytes)) = some (some (.int .u8 0), 1, 1) := by kernel_rfl

set_option maxHeartbeats 1000000 in
set_option maxRecDepth 100000 in
theorem copyCheck_used (b : Nat) (w : World) (h0 : w.cell? ⟨b, 0, none⟩ = some (.pointer (some ⟨b, 0, none⟩))) :
    Calls Tryz.prog 84 #[.pointer (some ⟨b, 0, none⟩)] w fun e w' => e = .returned (.tuple #[]) ∧ w = w' := by
  obtain ⟨j, hj, _⟩ := Option.map_eq_some_iff.1 sizeBuilder
  go_enter Tryz.func84, Tryz.ntmps84
  go_wp2
  rw [Lib.run_neq_ptr_same w _ Tryz.underlying77 hj]
  go_wp2
  go_end0
  exact ⟨rfl, rfl⟩

set_option maxHeartbeats 1000000 in
set_option maxRecDepth 100000 in
theorem copyCheck_fresh (b : Nat) (w : World) (h0 : w.cell? ⟨b, 0, none⟩ = some (.pointer none)) (hsh : w.shape? b = some (80, 2)) (hfz : w.frozen? ⟨b, 0, none⟩ = false) :
    Calls Tryz.prog 84 #[.pointer (some ⟨b, 0, none⟩)] w fun e w' => e = .returned (.tuple #[]) ∧ w' = w.setCell ⟨b, 0, none⟩ (.pointer (some ⟨b, 0, none⟩)) := by
  obtain ⟨j, hj, hjs⟩ := Option.map_eq_some_iff.1 sizeBuilder
  go_enter Tryz.func84, Tryz.ntmps84
  go_wp2
  rw [Lib.run_to_unsafe w ⟨b, 0, none⟩ Tryz.underlying77 Tryz.underlying129 hj (by rw [hjs]; decide) hsh (Nat.zero_lt_succ 1)]
  simp only [Result.andThen]
  rw [Oper.upon_value]
  go_wp2
  rw [run_callFunc_extern Tryz.func108 (by kernel_rfl) (by kernel_rfl) (by kernel_rfl) (e := Extern.AbiNoEscape.same) (by kernel_rfl)]
  rw [Lib.run_noEscape]
  simp only [Result.andThen]
  rw [Oper.upon_value]
  go_wp2
  rw [Lib.run_from_unsafe w ⟨b, 0, none⟩ Tryz.underlying129 Tryz.underlying77 hj hsh liesBuilder]
  simp only [Result.andThen]
  rw [Oper.upon_value]
  go_wp2
  go_end0
  exact ⟨rfl, rfl⟩

/-- the builder in block b holds these bytes -/
def Bld (B b : Nat) (l : List UInt8) (w : World) : Prop := Lib.IsBuilder 80 5 B b (Lib.byteCells l) w

theorem copyCheck_b (B b : Nat) (bs : List Value) (w : World) (h : Lib.IsBuilder 80 5 B b bs w) :
    Calls Tryz.prog 84 #[.pointer (some ⟨b, 0, none⟩)] w fun e w' => e = .returned (.tuple #[]) ∧ (Lib.BuilderAt 80 5 B b (.pointer (some ⟨b, 0, none⟩)) bs w' ∧ Below B w w' ∧ ∀ k, k ≠ b → w'.heap[k]? = w.heap[k]?) := by
  rcases h with h | h
  · refine (copyCheck_fresh b w h.cell0 h.shape h.frozen0).mono ?_
    rintro e w' ⟨rfl, rfl⟩
    exact ⟨rfl, h.used _, (Below.refl B w).setCell (p := ⟨b, 0, none⟩) h.1 _, fun k hk => Below.heap_setCell _ _ _ _ hk⟩
  · refine (copyCheck_used b w h.cell0).mono ?_
    rintro e w' ⟨rfl, rfl⟩
    exact ⟨rfl, h, Below.refl B _, fun _ _ => rfl⟩

theorem byteCells_app (l m : List UInt8) : Lib.byteCells (l ++ m) = Lib.byteCells l ++ Lib.byteCells m := by simp [Lib.byteCells]

set_option maxHeartbeats 2000000 in
set_option maxRecDepth 100000 in
theorem writeByte_c (B b : Nat) (l : List UInt8) (c : UInt8) (w : World) (h : Bld B b l w) (hlen : l.length + 1 ≤ 140737488355328) (hBw : B ≤ w.heap.size) :
    Calls Tryz.prog 57 #[.pointer (some ⟨b, 0, none⟩), .int .u8 c.toNat] w fun e w' => e = .returned .nilIface ∧ Bld B b (l ++ [c]) w' ∧ Below B w w' := by
  obtain ⟨i0, hi, hz0, hz1, hz2⟩ := info_parts infoByte
  have hll : (Lib.byteCells l).length = l.length := by simp [Lib.byteCells]
  go_enter Tryz.func57, Tryz.ntmps57
  go_wp2_with (go_at_call 84; refine (copyCheck_b B b _ _ h).mono ?_)
  rintro e w1 ⟨rfl, h1, hb1, _⟩
  obtain ⟨hB, v, hbk, hown, hne⟩ := h1
  have c0 : w1.cell? ⟨b, 0, none⟩ = some (.pointer (some ⟨b, 0, none⟩)) := by rw [Lib.cell_of_heap hbk]; rfl
  have c1 : w1.cell? ⟨b, 1, none⟩ = some v := by rw [Lib.cell_of_heap hbk]; rfl
  go_wp2_with (at_builtin; refine wpList_append_own _ rfl _ _ 78 rfl B 5 i0 (.int .u8 0) 1 1 Tryz.underlying78 hi hz0 hz1 hz2 rfl (by decide) _ _ _ rfl (hown.alloc _) ⟨w1.heap.size, 0, none⟩ 1 1 [.int .u8 c.toNat] rfl rfl ?c1 ?c2 ?c3 ?c4 ?c5 ?_)
  case c1 =>
    intro j u hj
    match j, hj with
    | 0, hj => simp at hj; subst hj; simp [Addr.add]
  case c2 => intro u hu; simp at hu; subst hu; rfl
  case c3 => unfold maxLen; omega
  case c4 => omega
  case c5 => have := hb1.size; simp; omega
  intro v' w2 hown' hgrow _
  have hlt : b < w1.heap.size := by
    rcases Nat.lt_or_ge b w1.heap.size with h' | h'
    · exact h'
    · simp [Array.getElem?_eq_none h'] at hbk
  have hb2 : w2.heap[b]? = some (.cells #[.pointer (some ⟨b, 0, none⟩), v] 80 (0, 0)) := by
    rw [hgrow.block b (by simp; omega) (fun e => hne e.symm), Lib.alloc_old w1 _ b hlt]
    exact hbk
  have d0 : w2.cell? ⟨b, 0, none⟩ = some (.pointer (some ⟨b, 0, none⟩)) := by rw [Lib.cell_of_heap hb2]; rfl
  have d1 : w2.cell? ⟨b, 1, none⟩ = some v := by rw [Lib.cell_of_heap hb2]; rfl
  have f1 : w2.frozen? ⟨b, 1, none⟩ = false := Lib.frozen_of_heap hb2 1
  obtain ⟨g, cap, rfl⟩ : ∃ g cap, v' = .slice (some ⟨g, 0, none⟩) (l.length + 1) cap := by
    rcases hown'.2 with ⟨_, h0⟩ | ⟨g, cap, cur, hv, _⟩
    · omega
    · exact ⟨g, cap, hv⟩
  go_wp2
  go_ret
  refine ⟨rfl, ?_, ?_⟩
  · refine .inr ?_
    rw [byteCells_app]
    exact Lib.BuilderAt.put (T := 80) (e := 5) hB hb2 (bs' := Lib.byteCells l ++ [.int .u8 c.toNat]) (by simpa [hll] using hown') (by decide)
  · exact ((hb1.alloc (by have := hb1.size; omega) _).grown hgrow (by have := hb1.size; simp; omega) (fun k hk => (hown.lt k hk).1)).setCell (p := ⟨b, 1, none⟩) hB _

set_option maxHeartbeats 2000000 in
set_option maxRecDepth 100000 in
theorem writeString_c (B b : Nat) (l : List UInt8) (s : ByteArray) (w : World) (h : Bld B b l w) (hlen : l.length + s.size ≤ 140737488355328) (hBw : B ≤ w.heap.size) :
    Calls Tryz.prog 61 #[.pointer (some ⟨b, 0, none⟩), .string s] w fun e w' => e = .returned (.tuple #[.int .i64 s.size, .nilIface]) ∧ Bld B b (l ++ s.data.toList) w' ∧ Below B w w' := by
  obtain ⟨i0, hi, hz0, hz1, hz2⟩ := info_parts infoByte
  have hll : (Lib.byteCells l).length = l.length := by simp [Lib.byteCells]
  go_enter Tryz.func61, Tryz.ntmps61
  go_wp2_with (go_at_call 84; refine (copyCheck_b B b _ _ h).mono ?_)
  rintro e w1 ⟨rfl, h1, hb1, _⟩
  obtain ⟨hB, v, hbk, hown, hne⟩ := h1
  have c0 : w1.cell? ⟨b, 0, none⟩ = some (.pointer (some ⟨b, 0, none⟩)) := by rw [Lib.cell_of_heap hbk]; rfl
  have c1 : w1.cell? ⟨b, 1, none⟩ = some v := by rw [Lib.cell_of_heap hbk]; rfl
  go_wp2_with (at_builtin; refine Lib.wpList_append_own_string _ rfl _ _ 78 9 rfl B 5 i0 Tryz.underlying78 Tryz.underlying9 hi hz0 hz1 hz2 _ _ _ rfl hown s rfl ?c3 ?c4 ?c5 ?_)
  case c3 => unfold maxLen; omega
  case c4 => omega
  case c5 => have := hb1.size; omega
  intro v' w2 hown' hgrow _
  have hlt : b < w1.heap.size := by
    rcases Nat.lt_or_ge b w1.heap.size with h' | h'
    · exact h'
    · simp [Array.getElem?_eq_none h'] at hbk
  have hb2 : w2.heap[b]? = some (.cells #[.pointer (some ⟨b, 0, none⟩), v] 80 (0, 0)) := by
    rw [hgrow.block b hlt (fun e => hne e.symm)]
    exact hbk
  have d0 : w2.cell? ⟨b, 0, none⟩ = some (.pointer (some ⟨b, 0, none⟩)) := by rw [Lib.cell_of_heap hb2]; rfl
  have d1 : w2.cell? ⟨b, 1, none⟩ = some v := by rw [Lib.cell_of_heap hb2]; rfl
  have f1 : w2.frozen? ⟨b, 1, none⟩ = false := Lib.frozen_of_heap hb2 1
  obtain ⟨ao, n', cap, rfl⟩ : ∃ ao n' cap, v' = .slice ao n' cap := by
    rcases hown'.2 with ⟨hv, _⟩ | ⟨g, cap, cur, hv, _⟩
    · exact ⟨_, _, _, hv⟩
    · exact ⟨_, _, _, hv⟩
  go_wp2
  go_ret2
  refine ⟨rfl, ?_, ?_⟩
  · refine .inr ?_
    rw [byteCells_app]
    exact Lib.BuilderAt.put (T := 80) (e := 5) hB hb2 (bs' := Lib.byteCells l ++ Lib.strCells s) (by simpa [Lib.strCells_length, hll] using hown') (by decide)
  · exact (hb1.grown hgrow (by have := hb1.size; omega) (fun k hk => (hown.lt k hk).1)).setCell (p := ⟨b, 1, none⟩) hB _

set_option maxHeartbeats 2000000 in
set_option maxRecDepth 100000 in
theorem write_c (B b : Nat) (l : List UInt8) (ad : Addr) (m c : Nat) (news : List UInt8) (w : World) (h : Bld B b l w) (hlen : l.length + m ≤ 140737488355328) (hBw : B ≤ w.heap.size)
    (hl : news.length = m) (hnews : ∀ j u, (Lib.byteCells news)[j]? = some u → w.cell? (ad.add j) = some u) (hadb : ad.block ≠ b) :
    Calls Tryz.prog 58 #[.pointer (some ⟨b, 0, none⟩), .slice (some ad) m c] w fun e w' => e = .returned (.tuple #[.int .i64 m, .nilIface]) ∧ Bld B b (l ++ news) w' ∧ Below B w w' := by
  obtain ⟨i0, hi, hz0, hz1, hz2⟩ := info_parts infoByte
  have hll : (Lib.byteCells l).length = l.length := by simp [Lib.byteCells]
  have hnl : (Lib.byteCells news).length = m := by simp [Lib.byteCells, hl]
  go_enter Tryz.func58, Tryz.ntmps58
  go_wp2_with (go_at_call 84; refine (copyCheck_b B b _ _ h).mono ?_)
  rintro e w1 ⟨rfl, h1, hb1, hfar⟩
  obtain ⟨hB, v, hbk, hown, hne⟩ := h1
  have c0 : w1.cell? ⟨b, 0, none⟩ = some (.pointer (some ⟨b, 0, none⟩)) := by rw [Lib.cell_of_heap hbk]; rfl
  have c1 : w1.cell? ⟨b, 1, none⟩ = some v := by rw [Lib.cell_of_heap hbk]; rfl
  have hnews1 : ∀ j u, (Lib.byteCells news)[j]? = some u → w1.cell? (ad.add j) = some u := fun j u hj => by
    rw [World.cell?_of_block (w := w) (hfar _ (by unfold Addr.add; split <;> exact hadb))]
    exact hnews j u hj
  clear hfar
  go_wp2_with (at_builtin; refine wpList_append_own _ rfl _ _ 78 rfl B 5 i0 (.int .u8 0) 1 1 Tryz.underlying78 hi hz0 hz1 hz2 rfl (by decide) _ _ _ rfl hown ad m c (Lib.byteCells news) rfl (by omega) hnews1 ?c2 ?c3 ?c4 ?c5 ?_)
  case c2 => intro u hu; simp only [Lib.byteCells, List.mem_map] at hu; obtain ⟨x, _, rfl⟩ := hu; rfl
  case c3 => unfold maxLen; omega
  case c4 => omega
  case c5 => have := hb1.size; omega
  intro v' w2 hown' hgrow _
  have hlt : b < w1.heap.size := by
    rcases Nat.lt_or_ge b w1.heap.size with h' | h'
    · exact h'
    · simp [Array.getElem?_eq_none h'] at hbk
  have hb2 : w2.heap[b]? = some (.cells #[.pointer (some ⟨b, 0, none⟩), v] 80 (0, 0)) := by
    rw [hgrow.block b hlt (fun e => hne e.symm)]
    exact hbk
  have d0 : w2.cell? ⟨b, 0, none⟩ = some (.pointer (some ⟨b, 0, none⟩)) := by rw [Lib.cell_of_heap hb2]; rfl
  have d1 : w2.cell? ⟨b, 1, none⟩ = some v := by rw [Lib.cell_of_heap hb2]; rfl
  have f1 : w2.frozen? ⟨b, 1, none⟩ = false := Lib.frozen_of_heap hb2 1
  obtain ⟨ao, n', cap, rfl⟩ : ∃ ao n' cap, v' = .slice ao n' cap := by
    rcases hown'.2 with ⟨hv, _⟩ | ⟨g, cap, cur, hv, _⟩
    · exact ⟨_, _, _, hv⟩
    · exact ⟨_, _, _, hv⟩
  go_wp2
  go_ret2
  refine ⟨rfl, ?_, ?_⟩
  · refine .inr ?_
    rw [byteCells_app]
    exact Lib.BuilderAt.put (T := 80) (e := 5) hB hb2 (bs' := Lib.byteCells l ++ Lib.byteCells news) (by simpa [hnl, hll] using hown') (by decide)
  · exact (hb1.grown hgrow (by have := hb1.size; omega) (fun k hk => (hown.lt k hk).1)).setCell (p := ⟨b, 1, none⟩) hB _

theorem string_b (B b : Nat) (l : List UInt8) (w : World) (h : Bld B b l w) (hBw : B ≤ w.heap.size) :
    Calls Tryz.prog 63 #[.pointer (some ⟨b, 0, none⟩)] w fun e w' => e = .returned (.string ⟨l.toArray⟩) ∧ Below B w w' := Tryz.Builder_String_any B b l w h hBw

theorem bld_new (w : World) : Bld w.heap.size w.heap.size [] (w.alloc (.cells #[.pointer none, .slice none 0 0] 80)) := by
  refine .inl ⟨Nat.le_refl _, .slice none 0 0, heap_alloc_new w _, ?_, by simp [Value.ownBlock]⟩
  exact ⟨rfl, .inl ⟨rfl, rfl⟩⟩

theorem bld_al {B b : Nat} {l : List UInt8} {w : World} (h : Bld B b l w) (o : Obj) : Bld B b l (w.alloc o) := by
  rcases h with ⟨hB, v, hb, hown, hne⟩ | ⟨hB, v, hb, hown, hne⟩
  · refine .inl ⟨hB, v, ?_, hown.alloc _, hne⟩
    rw [Lib.alloc_old w _ b (by rcases Nat.lt_or_ge b w.heap.size with h' | h'; exact h'; simp [Array.getElem?_eq_none h'] at hb)]; exact hb
  · refine .inr ⟨hB, v, ?_, hown.alloc _, hne⟩
    rw [Lib.alloc_old w _ b (by rcases Nat.lt_or_ge b w.heap.size with h' | h'; exact h'; simp [Array.getElem?_eq_none h'] at hb)]; exact hb
theorem bld_drew {B b : Nat} {l : List UInt8} {w : World} (h : Bld B b l w) : Bld B b l w.drew := h

theorem Bld.lt {B b : Nat} {l : List UInt8} {w : World} (h : Bld B b l w) : b < w.heap.size := by
  rcases h with h | h
  · exact h.lt
  · exact h.lt

theorem Bld.below {B b : Nat} {l : List UInt8} {w : World} (h : Bld B b l w) : B ≤ b := by
  rcases h with h | h <;> exact h.1

end Go.Proofs.YthpkjkcfhipjhaaGreatDoor

namespace Go.Proofs.YthpkjkcfhipjhaaGreatDoor
set_option linter.unusedVariables false
set_option linter.unusedSimpArgs false
open Go.RowKit

def hexL : List UInt8 := [48, 49, 50, 51, 52, 53, 54, 55, 56, 57, 97, 98, 99, 100, 101, 102]
def hexD (n : Nat) : UInt8 := hexL.getD n 0
def oddB (c : UInt8) : Bool := decide (c.toNat < 32) || decide (126 < c.toNat) || c == 92
def escL (c : UInt8) : List UInt8 :=
  if c = 39 then [39, 39] else if oddB c then [92, 120, hexD (c.toNat / 16), hexD (c.toNat % 16)] else [c]
def quotedL (s : List UInt8) : List UInt8 := 39 :: (s.flatMap escL ++ [39])

theorem escL_len (c : UInt8) : (escL c).length ≤ 4 := by
  unfold escL; split <;> (try split) <;> simp
theorem escs_len (s : List UInt8) : (s.flatMap escL).length ≤ 4 * s.length := by
  induction s with
  | nil => simp
  | cons c s ih => simp only [List.flatMap_cons, List.length_append, List.length_cons]; have := escL_len c; omega

theorem take_snoc' (s : ByteArray) (k : Nat) (h : k < s.size) : s.data.toList.take (k + 1) = s.data.toList.take k ++ [s[k]] := by
  rw [List.take_succ_eq_append_getElem (by simpa using h)]; rfl

/-- what the builder holds behind k bytes -/
def partQ (s : ByteArray) (k : Nat) : List UInt8 := 39 :: (s.data.toList.take k).flatMap escL
theorem partQ_len (s : ByteArray) (k : Nat) (h : k ≤ s.size) : (partQ s k).length ≤ 1 + 4 * k := by
  have := escs_len (s.data.toList.take k)
  have h2 : (s.data.toList.take k).length ≤ k := List.length_take_le _ _
  simp only [partQ, List.length_cons]; omega
theorem partQ_succ (s : ByteArray) (k : Nat) (h : k < s.size) : partQ s (k + 1) = partQ s k ++ escL s[k] := by
  unfold partQ
  rw [take_snoc' s k h]; simp

def hexBA : ByteArray := ⟨#[48, 49, 50, 51, 52, 53, 54, 55, 56, 57, 97, 98, 99, 100, 101, 102]⟩
theorem hexBA_get (n : Nat) (h : n < 16) : hexBA.data[n]? = some (hexD n) := by
  have : ∀ n : Fin 16, hexBA.data[n.1]? = some (hexD n.1) := by decide
  exact this ⟨n, h⟩
theorem hexBA_size : hexBA.size = 16 := rfl
theorem idx_hex (n : Nat) (h : n < 16) (m : Int) (hm : m = (n : Int)) (w : World) : (Instr.index 9 (.string ⟨#[48, 49, 50, 51, 52, 53, 54, 55, 56, 57, 97, 98, 99, 100, 101, 102]⟩) (.int .u8 m)).run Tryz.prog w = .ok (.int .u8 (hexD n).toNat) w := by
  have h1 : (⟨#[48, 49, 50, 51, 52, 53, 54, 55, 56, 57, 97, 98, 99, 100, 101, 102]⟩ : ByteArray) = hexBA := rfl
  subst hm
  rw [h1]
  have h2 := hexBA_get n h
  have hz := hexBA_size
  have hlt : n < hexBA.size := by omega
  have hg : hexBA[n] = hexD n := by
    have : hexBA.data[n]? = some hexBA[n] := by rw [Array.getElem?_eq_getElem]; rfl
    rw [this] at h2; exact Option.some.inj h2
  have hlt' : ¬ 16 ≤ n := by omega
  go_simp
  intro hh; exfalso; omega
theorem and15 (c : UInt8) : bits .and .u8 (c.toNat : Int) 15 = (c.toNat : Int) % 16 := by
  have : ∀ c : Fin 256, bits .and .u8 (c.1 : Int) 15 = (c.1 : Int) % 16 := by decide +kernel
  exact this c.toFin

theorem cells_new (w : World) (cs : List UInt8) (T : TypeId) (j : Nat) (u : Value) (h : (Lib.byteCells cs)[j]? = some u) :
    (w.alloc (.cells (Lib.byteCells cs).toArray T)).cell? ((⟨w.heap.size, 0, none⟩ : Addr).add j) = some u := by
  have := Lib.cell_of_heap (heap_alloc_new w (.cells (Lib.byteCells cs).toArray T)) j
  have ha : ((⟨w.heap.size, 0, none⟩ : Addr).add j) = ⟨w.heap.size, j, none⟩ := by
    unfold Addr.add; split
    · subst_vars; rfl
    · simp
  rw [ha, this]; simp only [List.getElem?_toArray, h]

theorem write4_c (B b : Nat) (l : List UInt8) (c1 c2 : UInt8) (w : World) (h : Bld B b l w) (hlen : l.length + 4 ≤ 140737488355328) (hBw : B ≤ w.heap.size) :
    Calls Tryz.prog 58 #[.pointer (some ⟨b, 0, none⟩), .slice (some ⟨w.heap.size, 0, none⟩) 4 4] (w.alloc (.cells #[.int .u8 92, .int .u8 120, .int .u8 c1.toNat, .int .u8 c2.toNat] 5)).drew fun e w' => e = .returned (.tuple #[.int .i64 4, .nilIface]) ∧ Bld B b (l ++ [92, 120, c1, c2]) w' ∧ Below B w w' := by
  have hlt := h.lt
  refine (write_c B b l ⟨w.heap.size, 0, none⟩ 4 4 [92, 120, c1, c2] _ (bld_drew (bld_al h _)) hlen (by simp; omega) rfl (fun j u hj => cells_new w [92, 120, c1, c2] _ j u hj) (by simp; omega)).mono ?_
  rintro e w' ⟨rfl, h1, h2⟩
  exact ⟨rfl, h1, (((Below.refl B w).alloc hBw _).drew).trans h2⟩

set_option maxRecDepth 100000 in
set_option maxHeartbeats 2000000 in
theorem quoted_c (s : ByteArray) (w : World) (hs : s.size ≤ 4096) :
    Calls Tryz.prog 97 #[.string s] w fun e w' => e = .returned (.string ⟨(quotedL s.data.toList).toArray⟩) ∧ Below w.heap.size w w' := by
  have hnew := bld_new w
  go_enter Tryz.func97, Tryz.ntmps97
  go_wp2_with fail
  refine (writeByte_c w.heap.size w.heap.size [] 39 _ hnew (by simp) (by simp)).mono ?_
  rintro e w1 ⟨rfl, h1, hb1⟩
  have hb0 : Below w.heap.size w w1 := (below_box w _).trans hb1
  have hz : w.heap.size < w1.heap.size := by have := hb1.size; simp at this; omega
  clear hnew hb1
  go_wp2_with fail
  go_loopw [9] (fun i wr => ∃ k : Nat, k ≤ s.size ∧ i = .int .i64 k ∧ Bld w.heap.size w.heap.size (partQ s k) wr ∧ Below w.heap.size w wr ∧ w.heap.size < wr.heap.size) (fun i _ => s.size - (intOf i).toNat)
  case atStart => exact ⟨0, Nat.zero_le _, rfl, h1, hb0, hz⟩
  case round =>
    obtain ⟨k, hk, rfl, hB, hBel, hzr⟩ := hrel
    clear h1 hb0 hz
    have hlen := partQ_len s k hk
    by_cases hlt : k < s.size
    · have hsn := Lib.hid (partQ_succ s k hlt)
      have hx1 := fun w => idx_hex (s[k].toNat / 16) (by have := s[k].toNat_lt; omega) ((s[k].toNat : Int) / 16) (by simp) w
      have hx2 := fun w => idx_hex (s[k].toNat % 16) (by omega) ((s[k].toNat : Int) % 16) (by simp) w
      have ha := and15 s[k]
      have hcl : ((s[k].toNat : Int) == 39) = decide (s[k] = 39) := by
        rw [Bool.eq_iff_iff]; simp only [beq_iff_eq, decide_eq_true_eq, ← UInt8.toNat_inj]
        show ((s[k].toNat : Int) = 39) ↔ s[k].toNat = 39
        omega
      have hcb : ((s[k].toNat : Int) == 92) = (s[k] == 92) := by
        rw [Bool.eq_iff_iff]; simp only [beq_iff_eq, ← UInt8.toNat_inj]
        show ((s[k].toNat : Int) = 92) ↔ s[k].toNat = 92
        omega
      have hu := s[k].toNat_lt
      have hi1 : IntKind.i64.wrap ((k : Int) + 1) = (k : Int) + 1 := IntWalk.i64_in _ (by omega)
      by_cases h39 : s[k] = 39
      · have hd : ((s[k].toNat : Int) == 39) = true := by rw [hcl]; simp [h39]
        have he : escL s[k] = [39, 39] := by unfold escL; rw [if_pos h39]
        go_wp2_with (first | (go_at_call 61; refine (writeString_c w.heap.size w.heap.size _ ⟨#[39, 39]⟩ _ hB (by show _ + 2 ≤ _; omega) (by omega)).mono ?_; rintro e w' ⟨rfl, hB2, hb2⟩))
        go_roundw
        case rel => exact ⟨k + 1, by omega, by go_num, by rw [hsn.out, he]; exact hB2, hBel.trans hb2, by have := hb2.size; omega⟩
        case measure => simp [intOf]; omega
      · have hd : ((s[k].toNat : Int) == 39) = false := by rw [hcl]; simp [h39]
        by_cases hodd : oddB s[k] = true
        · have he : escL s[k] = [92, 120, hexD (s[k].toNat / 16), hexD (s[k].toNat % 16)] := by unfold escL; rw [if_neg h39, if_pos hodd]
          have key : (decide ((s[k].toNat : Int) < 32) = true) ∨ (decide ((s[k].toNat : Int) < 32) = false ∧ decide (126 < (s[k].toNat : Int)) = true) ∨ (decide ((s[k].toNat : Int) < 32) = false ∧ decide (126 < (s[k].toNat : Int)) = false ∧ ((s[k].toNat : Int) == 92) = true) := by
            simp only [oddB, Bool.or_eq_true, decide_eq_true_eq] at hodd
            rw [hcb]
            simp only [decide_eq_true_eq, decide_eq_false_iff_not]
            rcases hodd with (h | h) | h
            · left; omega
            · right; left; omega
            · by_cases h1 : s[k].toNat < 32
              · left; omega
              · by_cases h2 : 126 < s[k].toNat
                · right; left; omega
                · right; right; exact ⟨by omega, by omega, h⟩
          clear hodd hcb hcl
          rcases key with h1 | ⟨h1, h2⟩ | ⟨h1, h2, h3⟩ <;> go_wp2_with fail
          all_goals (go_still_tail 6, (by kernel_rfl); change wpList _ _ _ _ _ wr.drew)
          all_goals go_wp2_with (first | (go_at_call 58; (refine (write4_c w.heap.size w.heap.size (partQ s k) (hexD (s[k].toNat / 16)) (hexD (s[k].toNat % 16)) wr hB (by omega) (by omega)).mono ?_); rintro e w' ⟨rfl, hB2, hb2⟩))
          all_goals (go_roundw; (exact ⟨k + 1, by omega, by go_num, (by rw [hsn.out, he]; exact hB2), hBel.trans hb2, (by have := hb2.size; omega)⟩); (simp [intOf]; omega))
        · have he : escL s[k] = [s[k]] := by unfold escL; rw [if_neg h39, if_neg hodd]
          have key : (decide ((s[k].toNat : Int) < 32) = false ∧ decide (126 < (s[k].toNat : Int)) = false ∧ ((s[k].toNat : Int) == 92) = false) := by
            simp only [oddB, Bool.or_eq_true, decide_eq_true_eq, not_or] at hodd
            rw [hcb]
            refine ⟨decide_eq_false (by omega), decide_eq_false (by omega), by simpa using hodd.2⟩
          obtain ⟨h1, h2, h3⟩ := key
          clear hodd hcb hcl
          go_wp2_with (first | (go_at_call 57; refine (writeByte_c w.heap.size w.heap.size _ s[k] _ hB (by omega) (by omega)).mono ?_; rintro e w' ⟨rfl, hB2, hb2⟩))
          go_roundw
          case rel => exact ⟨k + 1, by omega, by go_num, by rw [hsn.out, he]; exact hB2, hBel.trans hb2, by have := hb2.size; omega⟩
          case measure => simp [intOf]; omega
    · have hke : k = s.size := by omega
      subst hke
      go_wp2_with (first | (go_at_call 57; refine (writeByte_c w.heap.size w.heap.size _ 39 _ hB (by omega) (by omega)).mono ?_; rintro e w' ⟨rfl, hB2, hb2⟩) | (go_at_call 63; refine (string_b w.heap.size w.heap.size _ _ hB2 (by have := hb2.size; omega)).mono ?_; rintro e w'' ⟨rfl, hb3⟩))
      refine bodyPost_ret (v := .string ⟨(quotedL s.data.toList).toArray⟩) ?_ rfl ⟨rfl, hBel.trans (hb2.trans hb3)⟩
      have hq : partQ s s.size ++ [39] = quotedL s.data.toList := by
        have : s.data.toList.take s.size = s.data.toList := List.take_of_length_le (by simp)
        simp only [partQ, quotedL, this, List.cons_append]
      simp [results, Tryz.results97, go_sem, hq]

end Go.Proofs.YthpkjkcfhipjhaaGreatDoor

namespace Go.Proofs.YthpkjkcfhipjhaaGreatDoor
set_option linter.unusedVariables false
set_option linter.unusedSimpArgs false
open Go.RowKit

set_option maxRecDepth 100000 in
set_option maxHeartbeats 2000000 in
theorem show_text_c (t : ByteArray) (w : World) (ht : t.size ≤ 4096) (hs : soundV 4 0 0 t = true) : Calls Tryz.prog 72 #[.agg #[.int .i64 4, .int .i64 0, .int .u64 0, .string t]] w fun e w' => e = .returned (.string ⟨(quotedL t.data.toList).toArray⟩) ∧ Below w.heap.size w w' := by
  go_enter Tryz.func72, Tryz.ntmps72
  go_wp2_with (first | (go_at_call 67; refine (sound_c _ _ _ _ _ ⟨by decide, by decide⟩).mono ?_; rintro e w' ⟨rfl, hb⟩; (try (replace hb := below_undrew hb)); (try (replace hb := below_undrewN hb)); obtain ⟨hc, hf⟩ := bcell hb; (try (have hz0 : w.heap.size < w'.heap.size := (by have := hb.size; (try simp at this); omega))); (try (have hz1 : w.heap.size + 1 < w'.heap.size := (by have := hb.size; (try simp at this); omega))); (try (have hz2 : w.heap.size + 2 < w'.heap.size := (by have := hb.size; (try simp at this); omega))); (try (have hz3 : w.heap.size + 3 < w'.heap.size := (by have := hb.size; (try simp at this); omega)))) | (go_at_call 97; refine (quoted_c _ _ ht).mono ?_; rintro e w' ⟨rfl, hb⟩; (try (replace hb := below_undrew hb)); (try (replace hb := below_undrewN hb)); obtain ⟨hc, hf⟩ := bcell hb; (try (have hz0 : w.heap.size < w'.heap.size := (by have := hb.size; (try simp at this); omega))); (try (have hz1 : w.heap.size + 1 < w'.heap.size := (by have := hb.size; (try simp at this); omega))); (try (have hz2 : w.heap.size + 2 < w'.heap.size := (by have := hb.size; (try simp at this); omega))); (try (have hz3 : w.heap.size + 3 < w'.heap.size := (by have := hb.size; (try simp at this); omega)))))
  exact bodyPost_ret (v := .string ⟨(quotedL t.data.toList).toArray⟩) (by simp [results, Tryz.results72, go_sem, *]) rfl ⟨rfl, (by repeat (first | (with_reducible exact Below.refl _ _) | (with_reducible refine below_al ?_ _) | (with_reducible refine below_drewN ?_ _) | (with_reducible refine Below.drew ?_) | (with_reducible refine below_via (by assumption) ?_) | (with_reducible refine below_sc ?_ ?_ _; · (first | (simp; done) | (simp; omega) | omega))))⟩

theorem two23 : resV (twoS 10 2 2 0 ⟨#[]⟩ 2 3 0 ⟨#[]⟩) = (⟨2, 5, 0, ⟨#[]⟩⟩, 0) := by kernel_rfl
theorem two70 : (resV (twoS 13 2 7 0 ⟨#[]⟩ 2 0 0 ⟨#[]⟩)) = (⟨0, 0, 0, ⟨#[]⟩⟩, 10) := by kernel_rfl
theorem one4 : resV (oneS 3 0 2 4 0 ⟨#[]⟩) = (⟨2, -4, 0, ⟨#[]⟩⟩, 0) := by kernel_rfl
theorem sound5 : soundV 2 5 0 ⟨#[]⟩ = true := by kernel_rfl
theorem cmp54 : cmpV 2 5 0 ⟨#[]⟩ 2 (-4) 0 ⟨#[]⟩ = 1 := by kernel_rfl
theorem sound_t : soundV 4 0 0 ⟨#[97, 39, 98]⟩ = true := by kernel_rfl
theorem quoted_t : (⟨(quotedL (⟨#[97, 39, 98]⟩ : ByteArray).data.toList).toArray⟩ : ByteArray) = ⟨#[39, 97, 39, 39, 98, 39]⟩ := by kernel_rfl
theorem plain0 : plainI 9223372036854775808 = 0 := by kernel_rfl

theorem show_a (w : World) : Calls Tryz.prog 72 #[.agg #[.int .i64 4, .int .i64 0, .int .u64 0, .string ⟨#[97, 39, 98]⟩]] w fun e w' => e = .returned (.string ⟨#[39, 97, 39, 39, 98, 39]⟩) ∧ Below w.heap.size w w' := by
  rw [← quoted_t]; exact show_text_c ⟨#[97, 39, 98]⟩ w (by decide) sound_t
theorem cmp_a (w : World) : Calls Tryz.prog 70 #[.agg #[.int .i64 2, .int .i64 5, .int .u64 0, .string ⟨#[]⟩], .agg #[.int .i64 2, .int .i64 (-4), .int .u64 0, .string ⟨#[]⟩]] w fun e w' => e = .returned (.int .i64 1) ∧ Below w.heap.size w w' := by
  refine (compare_c 2 5 0 ⟨#[]⟩ 2 (-4) 0 ⟨#[]⟩ w ⟨by decide, by decide⟩ ⟨by decide, by decide⟩).mono ?_
  rintro e w' ⟨rfl, h⟩; rw [cmp54]; exact ⟨rfl, h⟩
theorem sound_a (w : World) : Calls Tryz.prog 67 #[.agg #[.int .i64 2, .int .i64 5, .int .u64 0, .string ⟨#[]⟩]] w fun e w' => e = .returned (.bool true) ∧ Below w.heap.size w w' := by
  refine (sound_c 2 5 0 ⟨#[]⟩ w ⟨by decide, by decide⟩).mono ?_
  rintro e w' ⟨rfl, h⟩; rw [sound5]; exact ⟨rfl, h⟩
theorem eq_a : eqV 2 5 0 ⟨#[]⟩ 2 5 0 ⟨#[]⟩ = true := by kernel_rfl
theorem eq_b : eqV 2 (-4) 0 ⟨#[]⟩ 2 (-4) 0 ⟨#[]⟩ = true := by kernel_rfl
theorem eq_c : eqV 3 0 0 ⟨#[]⟩ 3 0 0 ⟨#[]⟩ = true := by kernel_rfl
theorem eq_d : eqV 1 1 0 ⟨#[]⟩ 1 1 0 ⟨#[]⟩ = true := by kernel_rfl

end Go.Proofs.YthpkjkcfhipjhaaGreatDoor

namespace Go.Proofs.YthpkjkcfhipjhaaGreatDoor
set_option linter.unusedVariables false
set_option linter.unusedSimpArgs false
open Go.RowKit

def sV (x : V) : Bool := soundV x.k x.n x.f x.t

theorem sound_null : soundV 0 0 0 ⟨#[]⟩ = true := by kernel_rfl
theorem sound_bool (b : Bool) : soundV 1 (b2i b) 0 ⟨#[]⟩ = true := by cases b <;> kernel_rfl
theorem sound_int (n : Int) : soundV 2 n 0 ⟨#[]⟩ = true := by simp [soundV, eqV]
theorem sound_float (b : Int) : soundV 3 0 (plainI b) ⟨#[]⟩ = true := by simp [soundV, eqV, plain_idem]
theorem sound_txt (t : ByteArray) (h : t.size ≤ 4096) : soundV 4 0 0 t = true := by simp [soundV, eqV, h]

theorem sound_cases {k n f : Int} {t : ByteArray} (h : soundV k n f t = true) :
    (k = 0 ∧ n = 0 ∧ f = 0 ∧ t = ⟨#[]⟩) ∨ (k = 1 ∧ (n = 0 ∨ n = 1) ∧ f = 0 ∧ t = ⟨#[]⟩) ∨ (k = 2 ∧ f = 0 ∧ t = ⟨#[]⟩) ∨ (k = 3 ∧ n = 0 ∧ plainI f = f ∧ t = ⟨#[]⟩) ∨ (k = 4 ∧ n = 0 ∧ f = 0 ∧ t.size ≤ 4096) := by
  unfold soundV at h
  split at h
  · rename_i h0; rw [eqV_iff] at h; left; exact ⟨h.1, h.2.1, h.2.2.1, h.2.2.2⟩
  · split at h
    · simp only [Bool.and_eq_true, eqV_iff, Bool.or_eq_true, beq_iff_eq] at h; right; left; exact ⟨h.1.1, h.2, h.1.2.2.1, h.1.2.2.2⟩
    · split at h
      · rw [eqV_iff] at h; right; right; left; exact ⟨h.1, h.2.2.1, h.2.2.2⟩
      · split at h
        · simp only [Bool.and_eq_true, eqV_iff, beq_iff_eq] at h; right; right; right; left; exact ⟨h.1.1, h.1.2.1, h.2, h.1.2.2.2⟩
        · split at h
          · simp only [Bool.and_eq_true, eqV_iff, decide_eq_true_eq] at h; right; right; right; right; exact ⟨h.1.1, h.1.2.1, h.1.2.2.1, h.2⟩
          · cases h

theorem intF_I64 {x : Nat} {m : Int} (h : intF x = some m) : I64 m := by
  unfold intF at h
  split at h
  · split at h
    · cases h; assumption
    · cases h
  · cases h

/-- an answer is a value, or one of these refusals -/
def Cl (l : List Int) (r : Except Int V) : Prop := match r with | .ok x => sV x = true ∧ I64 x.n | .error c => c ∈ l

theorem fRes_plain (r : Option Nat) : plainI (fRes r) = fRes r := by
  cases r with
  | none => decide +kernel
  | some x => exact plain_idem
theorem fitI_cases (x : Int) : (fitI x = .ok x ∧ I64 x) ∨ fitI x = .error 11 := by
  unfold fitI; split
  · left; exact ⟨rfl, by assumption⟩
  · right; rfl
theorem i64_0 : I64 0 := ⟨by decide, by decide⟩
theorem i64_b (b : Bool) : I64 (b2i b) := by cases b <;> exact ⟨by decide, by decide⟩

theorem castS_cl (k n f : Int) (t : ByteArray) (kind : Int) (hn : I64 n) (h : soundV k n f t = true) : Cl [1, 11] (castS k n f t kind) := by
  unfold castS
  split
  · exact ⟨h, hn⟩
  · split
    · exact ⟨sound_float _, i64_0⟩
    · split
      · split
        · rename_i m hm; exact ⟨sound_int _, intF_I64 hm⟩
        · simp [Cl]
      · split
        · refine ⟨sound_txt _ ?_, i64_0⟩
          rw [size_mk]; have := Lib.itoa_length_le n hn.1 hn.2; omega
        · split
          · refine ⟨sound_txt _ ?_, i64_0⟩
            rw [size_mk]; cases (n == 1) <;> decide
          · simp [Cl]

theorem negS_cl (k n f : Int) (hn : I64 n) : Cl [1, 11] (negS k n f) := by
  obtain ⟨h1, h2⟩ := hn
  unfold negS
  split
  · split
    · simp [Cl]
    · rename_i h; simp at h; exact ⟨sound_int _, by show -9223372036854775808 ≤ -n; omega, by show -n ≤ 9223372036854775807; omega⟩
  · split
    · exact ⟨sound_float _, i64_0⟩
    · simp [Cl]

theorem oneS_cl (code kind k n f : Int) (t : ByteArray) (hn : I64 n) : Cl [1, 11] (oneS code kind k n f t) := by
  unfold oneS
  split
  · simp [Cl]
  · rename_i h; simp only [Bool.not_eq_true', Bool.not_eq_false'] at h
    have h : soundV k n f t = true := by simpa using h
    split
    · exact ⟨sound_bool _, i64_b _⟩
    · split
      · simp [Cl]
      · split
        · exact ⟨h, hn⟩
        · split
          · exact castS_cl k n f t kind hn h
          · split
            · exact negS_cl k n f hn
            · split
              · exact ⟨sound_bool _, i64_b _⟩
              · simp [Cl]

theorem logicS_cl (code k n f : Int) (t : ByteArray) (k' n' f' : Int) (t' : ByteArray) : Cl [1, 11, 10, 12] (logicS code k n f t k' n' f' t') := by
  unfold logicS
  split
  · simp [Cl]
  · split
    · exact ⟨sound_bool _, i64_b _⟩
    · split
      · exact ⟨sound_null, i64_0⟩
      · exact ⟨sound_bool _, i64_b _⟩

theorem tmod_I64 {a b : Int} (ha : I64 a) (h0 : b ≠ 0) : I64 (a.tmod b) := by
  obtain ⟨a1, a2⟩ := ha
  have h := Int.natAbs_tmod a b
  have h2 : a.natAbs % b.natAbs ≤ a.natAbs := Nat.mod_le _ _
  have h3 : 0 ≤ a → 0 ≤ a.tmod b := fun h => Int.tmod_nonneg b h
  constructor
  · omega
  · by_cases h4 : 0 ≤ a
    · omega
    · have : a.tmod b ≤ 0 := by
        have h5 := Int.tmod_nonneg (a := -a) b (by omega)
        rw [Int.neg_tmod] at h5; omega
      omega

theorem intsS_cl (code a b : Int) (ha : I64 a) : Cl [1, 11, 10, 12] (addI (intsS code a b)) := by
  have fit : ∀ x, Cl [1, 11, 10, 12] (addI (fitI x)) := fun x => by
    rcases fitI_cases x with ⟨h, hx⟩ | h
    · rw [h]; exact ⟨sound_int _, hx⟩
    · rw [h]; simp [Cl, addI]
  unfold intsS
  split
  · exact fit _
  · split
    · exact fit _
    · split
      · exact fit _
      · split
        · simp [Cl, addI]
        · rename_i hb; simp at hb
          split
          · exact ⟨sound_int _, tmod_I64 ha hb⟩
          · exact fit _

theorem twoS_cl (code k n f : Int) (t : ByteArray) (k' n' f' : Int) (t' : ByteArray) (hn : I64 n) (hn' : I64 n') : Cl [1, 11, 10, 12] (twoS code k n f t k' n' f' t') := by
  unfold twoS
  split
  · simp [Cl]
  · rename_i h
    have h : soundV k n f t = true ∧ soundV k' n' f' t' = true := by
      simp only [Bool.not_eq_true', Bool.and_eq_true, Bool.not_eq_false] at h
      exact ⟨h.1.1.1, h.1.1.2⟩
    split
    · exact logicS_cl ..
    · split
      · simp [Cl]
      · split
        · split
          · exact ⟨h.2, hn'⟩
          · exact ⟨h.1, hn⟩
        · split
          · simp [Cl]
          · split
            · exact ⟨sound_null, i64_0⟩
            · split
              · exact ⟨sound_bool _, i64_b _⟩
              · split
                · unfold textS; split
                  · exact ⟨sound_txt _ (by assumption), i64_0⟩
                  · simp [Cl]
                · split
                  · exact ⟨by simp [sV, soundV, eqV, floatS, fRes_plain], i64_0⟩
                  · exact intsS_cl code n n' hn

/-- what a door answers, told by its parts -/
theorem resV_cl {l : List Int} {r : Except Int V} (h : Cl l r) (hl : 0 ∉ l) : soundV (resV r).1.k (resV r).1.n (resV r).1.f (resV r).1.t = true ∧ I64 (resV r).1.n ∧ ((resV r).2 = 0 ∨ (resV r).2 ∈ l ∧ (resV r).1 = ⟨0, 0, 0, ⟨#[]⟩⟩) := by
  cases r with
  | ok x => exact ⟨h.1, h.2, .inl rfl⟩
  | error c => exact ⟨sound_null, i64_0, .inr ⟨h, rfl⟩⟩

end Go.Proofs.YthpkjkcfhipjhaaGreatDoor

namespace Go.Proofs.YthpkjkcfhipjhaaGreatDoor
set_option linter.unusedVariables false
set_option linter.unusedSimpArgs false
open Go.RowKit

theorem ci_range (a b : Int) : Lib.compareInt a b = -1 ∨ Lib.compareInt a b = 0 ∨ Lib.compareInt a b = 1 := by unfold Lib.compareInt; split; simp; split <;> simp
theorem ci_lt (a b : Int) : Lib.compareInt a b = -1 ↔ a < b := by unfold Lib.compareInt; split; simp [*]; split <;> simp <;> omega
theorem ci_eq (a b : Int) : Lib.compareInt a b = 0 ↔ a = b := by unfold Lib.compareInt; split; simp; omega; split <;> simp <;> omega
theorem ci_gt (a b : Int) : Lib.compareInt a b = 1 ↔ b < a := by unfold Lib.compareInt; split; simp; omega; split <;> simp <;> omega

/-- a compare that is one total order on the things that p holds of -/
structure Ord (α : Type) (p : α → Prop) (c : α → α → Int) : Prop where
  range : ∀ a b, c a b = -1 ∨ c a b = 0 ∨ c a b = 1
  anti : ∀ a b, c a b = -(c b a)
  same : ∀ a b, p a → p b → (c a b = 0 ↔ a = b)
  trans : ∀ a b d, c a b ≤ 0 → c b d ≤ 0 → c a d ≤ 0

theorem ord_int : Ord Int (fun _ => True) Lib.compareInt where
  range := ci_range
  anti a b := by
    have h1 := ci_range a b; have h2 := ci_range b a; have := ci_lt a b; have := ci_lt b a; have := ci_eq a b; have := ci_eq b a; have := ci_gt a b; have := ci_gt b a
    omega
  same a b _ _ := ci_eq a b
  trans a b d h1 h2 := by
    have g1 := ci_range a b; have g2 := ci_range b d; have g3 := ci_range a d; have := ci_lt a b; have := ci_eq a b; have := ci_gt a b; have := ci_lt b d; have := ci_eq b d; have := ci_gt b d; have := ci_lt a d; have := ci_eq a d; have := ci_gt a d
    omega

/-- a compare by a key -/
theorem ord_key {α : Type} {p : α → Prop} (key : α → Int) (inj : ∀ a b, p a → p b → key a = key b → a = b) : Ord α p (fun a b => Lib.compareInt (key a) (key b)) where
  range a b := ci_range _ _
  anti a b := ord_int.anti _ _
  same a b ha hb := ⟨fun h => inj a b ha hb ((ci_eq _ _).1 h), fun h => (ci_eq _ _).2 (by rw [h])⟩
  trans a b d h1 h2 := ord_int.trans _ _ _ h1 h2

theorem u8_lt (a b : UInt8) : a < b ↔ a.toNat < b.toNat := UInt8.lt_iff_toNat_lt
theorem u8_eq (a b : UInt8) : a = b ↔ a.toNat = b.toNat := UInt8.toNat_inj.symm

theorem cb_range : ∀ a b : List UInt8, Lib.compareBytes a b = -1 ∨ Lib.compareBytes a b = 0 ∨ Lib.compareBytes a b = 1
  | [], [] => by simp [Lib.compareBytes]
  | [], _ :: _ => by simp [Lib.compareBytes]
  | _ :: _, [] => by simp [Lib.compareBytes]
  | a :: la, b :: lb => by
    rw [Lib.compareBytes]
    split
    · simp
    · split
      · simp
      · exact cb_range la lb
theorem cb_anti : ∀ a b : List UInt8, Lib.compareBytes a b = -(Lib.compareBytes b a)
  | [], [] => by simp [Lib.compareBytes]
  | [], _ :: _ => by simp [Lib.compareBytes]
  | _ :: _, [] => by simp [Lib.compareBytes]
  | a :: la, b :: lb => by
    have ih := cb_anti la lb
    simp only [Lib.compareBytes, u8_lt]
    by_cases h1 : a.toNat < b.toNat
    · have h2 : ¬ b.toNat < a.toNat := by omega
      simp [h1, h2]
    · by_cases h2 : b.toNat < a.toNat
      · simp [h1, h2]
      · simp [h1, h2, ih]
theorem cb_same : ∀ a b : List UInt8, Lib.compareBytes a b = 0 ↔ a = b
  | [], [] => by simp [Lib.compareBytes]
  | [], _ :: _ => by simp [Lib.compareBytes]
  | _ :: _, [] => by simp [Lib.compareBytes]
  | a :: la, b :: lb => by
    have ih := cb_same la lb
    simp only [Lib.compareBytes, u8_lt, List.cons.injEq]
    by_cases h1 : a.toNat < b.toNat
    · have h2 : a ≠ b := fun h => by rw [u8_eq] at h; omega
      simp [h1, h2]
    · by_cases h2 : b.toNat < a.toNat
      · have h3 : a ≠ b := fun h => by rw [u8_eq] at h; omega
        simp [h1, h2, h3]
      · have h3 : a = b := by rw [u8_eq]; omega
        simp [h1, h2, h3, ih]
theorem cb_trans : ∀ a b c : List UInt8, Lib.compareBytes a b ≤ 0 → Lib.compareBytes b c ≤ 0 → Lib.compareBytes a c ≤ 0
  | [], _, [], _, _ => by simp [Lib.compareBytes]
  | [], _, _ :: _, _, _ => by simp [Lib.compareBytes]
  | _ :: _, [], _, h, _ => by simp [Lib.compareBytes] at h
  | _ :: _, _ :: _, [], _, h => by simp [Lib.compareBytes] at h
  | a :: la, b :: lb, c :: lc, h1, h2 => by
    have ih := cb_trans la lb lc
    simp only [Lib.compareBytes, u8_lt] at h1 h2 ⊢
    by_cases g1 : a.toNat < b.toNat
    · by_cases g2 : b.toNat < c.toNat
      · rw [if_pos (by omega)]; decide
      · by_cases g3 : c.toNat < b.toNat
        · rw [if_neg g2, if_pos g3] at h2; omega
        · rw [if_pos (by omega)]; decide
    · by_cases g1' : b.toNat < a.toNat
      · rw [if_neg g1, if_pos g1'] at h1; omega
      · by_cases g2 : b.toNat < c.toNat
        · rw [if_pos (by omega)]; decide
        · by_cases g3 : c.toNat < b.toNat
          · rw [if_neg g2, if_pos g3] at h2; omega
          · rw [if_neg (by omega), if_neg (by omega)]
            rw [if_neg g1, if_neg g1'] at h1
            rw [if_neg g2, if_neg g3] at h2
            exact ih h1 h2

theorem ord_bytes : Ord ByteArray (fun _ => True) (fun a b => Lib.compareBytes a.data.toList b.data.toList) where
  range a b := cb_range _ _
  anti a b := cb_anti _ _
  same a b _ _ := by
    rw [cb_same]
    constructor
    · intro h
      have : a.data = b.data := Array.toList_inj.1 h
      cases a; cases b; cases this; rfl
    · rintro rfl; rfl
  trans a b d h1 h2 := cb_trans _ _ _ h1 h2

/-- the place of a float among all, a NaN the highest -/
def fkey (x : Nat) : Int := if fNaN x then 9223372036854775808 else sr x

theorem int_cmp (a b : Int) : compare a b = if a < b then .lt else if a = b then .eq else .gt := rfl
theorem rung_lt (x : Nat) : rungW x < 9223372036854775808 := Nat.mod_lt _ (by decide)
theorem sr_lt (x : Nat) : -9223372036854775808 < sr x ∧ sr x < 9223372036854775808 := by
  have := rung_lt x
  unfold sr; split <;> omega

theorem cmpF_key (x y : Nat) : cmpF x y = Lib.compareInt (fkey x) (fkey y) := by
  have lx := sr_lt x
  have ly := sr_lt y
  unfold cmpF fkey
  cases hx : fNaN x <;> cases hy : fNaN y
  · have gx : rungW x ≤ 9218868437227405312 := by have := nan_rung x; rw [hx] at this; simpa using this.symm
    have gy : rungW y ≤ 9218868437227405312 := by have := nan_rung y; rw [hy] at this; simpa using this.symm
    have ho : FloatKind.f64.format.order x y = some (compare (sr x) (sr y)) := order_sr gx gy
    rw [ho, int_cmp]
    simp only [Bool.false_and, Bool.false_eq_true, if_false, Lib.compareInt]
    by_cases h1 : sr x < sr y
    · simp [h1]
    · by_cases h2 : sr x = sr y
      · simp [h2]
      · have h3 : sr x > sr y := by omega
        simp [h1, h2, h3]
  · simp [Lib.compareInt]; omega
  · simp [Lib.compareInt]; omega
  · simp [Lib.compareInt]

theorem fkey_inj {x y : Int} (ux : 0 ≤ x ∧ x < 18446744073709551616) (uy : 0 ≤ y ∧ y < 18446744073709551616) (px : plainI x = x) (py : plainI y = y) (h : fkey x.toNat = fkey y.toNat) : x = y := by
  have lx := sr_lt x.toNat
  have ly := sr_lt y.toNat
  have cx : ∀ x : Int, 0 ≤ x → fNaN x.toNat = fNaN x := fun x hx => by rw [show ((x.toNat : Nat) : Int) = x by omega]
  unfold fkey at h
  rw [cx x ux.1, cx y uy.1] at h
  cases hx : fNaN x <;> cases hy : fNaN y
  · rw [hx, hy] at h
    simp only [Bool.false_eq_true, if_false] at h
    have nx : x ≠ 9223372036854775808 := fun e => by subst e; revert px; decide +kernel
    have ny : y ≠ 9223372036854775808 := fun e => by subst e; revert py; decide +kernel
    unfold sr negW rungW at h
    have hx2 : x.toNat / 9223372036854775808 = 0 ∨ x.toNat / 9223372036854775808 = 1 := by omega
    have hy2 : y.toNat / 9223372036854775808 = 0 ∨ y.toNat / 9223372036854775808 = 1 := by omega
    rcases hx2 with e1 | e1 <;> rcases hy2 with e2 | e2 <;> rw [e1, e2] at h <;> simp at h <;> omega
  · rw [hx, hy] at h; simp at h; omega
  · rw [hx, hy] at h; simp at h; omega
  · simp only [plainI, hx, if_true] at px
    simp only [plainI, hy, if_true] at py
    omega

theorem ord_float : Ord Int (fun f => (0 ≤ f ∧ f < 18446744073709551616) ∧ plainI f = f) (fun x y => cmpF x.toNat y.toNat) := by
  have h := ord_key (p := fun f : Int => (0 ≤ f ∧ f < 18446744073709551616) ∧ plainI f = f) (fun x => fkey x.toNat) (fun a b ha hb he => fkey_inj ha.1 hb.1 ha.2 hb.2 he)
  have e : (fun x y : Int => cmpF x.toNat y.toNat) = fun a b => Lib.compareInt (fkey a.toNat) (fkey b.toNat) := by funext x y; exact cmpF_key _ _
  rw [e]; exact h

/-- a value of the language -/
def sV64 (x : V) : Prop := sV x = true ∧ 0 ≤ x.f ∧ x.f < 18446744073709551616
def cV (x y : V) : Int := cmpV x.k x.n x.f x.t y.k y.n y.f y.t

theorem cV_eq (x y : V) (hx : sV x = true) (hy : sV y = true) : cV x y = if x.k = y.k then (if x.k = 3 then cmpF x.f.toNat y.f.toNat else if x.k = 4 then Lib.compareBytes x.t.data.toList y.t.data.toList else Lib.compareInt x.n y.n) else Lib.compareInt x.k y.k := by
  unfold cV cmpV
  have hx' : soundV x.k x.n x.f x.t = true := hx
  have hy' : soundV y.k y.n y.f y.t = true := hy
  rw [hx', hy']
  by_cases h : x.k = y.k
  · simp [h]
  · simp [h]

theorem cV_range (x y : V) (hx : sV x = true) (hy : sV y = true) : cV x y = -1 ∨ cV x y = 0 ∨ cV x y = 1 := by
  rw [cV_eq x y hx hy]
  split
  · split
    · exact ord_float.range _ _
    · split
      · exact ord_bytes.range _ _
      · exact ci_range _ _
  · exact ci_range _ _
theorem cV_anti (x y : V) (hx : sV x = true) (hy : sV y = true) : cV x y = -(cV y x) := by
  rw [cV_eq x y hx hy, cV_eq y x hy hx]
  by_cases h : x.k = y.k
  · rw [if_pos h, if_pos h.symm, ← h]
    split
    · exact ord_float.anti _ _
    · split
      · exact ord_bytes.anti _ _
      · exact ord_int.anti _ _
  · rw [if_neg h, if_neg (fun e => h e.symm)]; exact ord_int.anti _ _
theorem cV_same (x y : V) (hx : sV64 x) (hy : sV64 y) : cV x y = 0 ↔ x = y := by
  rw [cV_eq x y hx.1 hy.1]
  have sx := sound_cases hx.1
  have sy := sound_cases hy.1
  obtain ⟨k, n, f, t⟩ := x
  obtain ⟨k', n', f', t'⟩ := y
  simp only [V.mk.injEq] at *
  by_cases h : k = k'
  · subst h
    rw [if_pos rfl]
    split
    · rename_i h3; subst h3
      rcases sx with ⟨a, _⟩ | ⟨a, _⟩ | ⟨a, _⟩ | ⟨_, rfl, p, rfl⟩ | ⟨a, _⟩ <;> first | omega | skip
      rcases sy with ⟨a, _⟩ | ⟨a, _⟩ | ⟨a, _⟩ | ⟨_, rfl, p', rfl⟩ | ⟨a, _⟩ <;> first | omega | skip
      rw [ord_float.same _ _ ⟨hx.2, p⟩ ⟨hy.2, p'⟩]; simp
    · split
      · rename_i h4; subst h4
        rcases sx with ⟨a, _⟩ | ⟨a, _⟩ | ⟨a, _⟩ | ⟨a, _⟩ | ⟨_, rfl, rfl, _⟩ <;> first | omega | skip
        rcases sy with ⟨a, _⟩ | ⟨a, _⟩ | ⟨a, _⟩ | ⟨a, _⟩ | ⟨_, rfl, rfl, _⟩ <;> first | omega | skip
        rw [ord_bytes.same _ _ trivial trivial]; simp
      · rw [ci_eq]
        have ft : f = 0 ∧ t = ⟨#[]⟩ := by
          rcases sx with ⟨_, _, a, b⟩ | ⟨_, _, a, b⟩ | ⟨_, a, b⟩ | ⟨a, _⟩ | ⟨a, _⟩
          · exact ⟨a, b⟩
          · exact ⟨a, b⟩
          · exact ⟨a, b⟩
          · omega
          · omega
        have ft' : f' = 0 ∧ t' = ⟨#[]⟩ := by
          rcases sy with ⟨_, _, a, b⟩ | ⟨_, _, a, b⟩ | ⟨_, a, b⟩ | ⟨a, _⟩ | ⟨a, _⟩
          · exact ⟨a, b⟩
          · exact ⟨a, b⟩
          · exact ⟨a, b⟩
          · omega
          · omega
        simp [ft.1, ft.2, ft'.1, ft'.2]
  · rw [if_neg h, ci_eq]; simp [h]
theorem cV_trans (x y z : V) (hx : sV x = true) (hy : sV y = true) (hz : sV z = true) (h1 : cV x y ≤ 0) (h2 : cV y z ≤ 0) : cV x z ≤ 0 := by
  rw [cV_eq _ _ hx hy] at h1
  rw [cV_eq _ _ hy hz] at h2
  rw [cV_eq _ _ hx hz]
  have r1 := ci_range x.k y.k
  have r2 := ci_range y.k z.k
  have r3 := ci_range x.k z.k
  have a1 := ci_gt x.k y.k
  have a2 := ci_gt y.k z.k
  have a3 := ci_gt x.k z.k
  have hle : ∀ a b : Int, Lib.compareInt a b ≤ 0 ↔ a ≤ b := fun a b => by
    have := ci_range a b; have := ci_gt a b; omega
  by_cases e1 : x.k = y.k
  · rw [if_pos e1] at h1
    by_cases e2 : y.k = z.k
    · rw [if_pos e2] at h2
      rw [if_pos (e1.trans e2)]
      rw [← e1] at h2
      by_cases c3 : x.k = 3
      · rw [if_pos c3] at h1 h2 ⊢; exact ord_float.trans _ _ _ h1 h2
      · rw [if_neg c3] at h1 h2 ⊢
        by_cases c4 : x.k = 4
        · rw [if_pos c4] at h1 h2 ⊢; exact ord_bytes.trans _ _ _ h1 h2
        · rw [if_neg c4] at h1 h2 ⊢; exact ord_int.trans _ _ _ h1 h2
    · rw [if_neg e2] at h2
      rw [if_neg (fun e => e2 (e1.symm.trans e)), e1]; exact h2
  · rw [if_neg e1] at h1
    by_cases e2 : y.k = z.k
    · rw [if_neg (fun e => e1 (e.trans e2.symm)), ← e2]; exact h1
    · rw [if_neg e2] at h2
      rw [hle] at h1 h2
      rw [if_neg (by omega), hle]; omega

end Go.Proofs.YthpkjkcfhipjhaaGreatDoor

namespace Go.Proofs.YthpkjkcfhipjhaaGreatDoor
set_option linter.unusedVariables false
set_option linter.unusedSimpArgs false
open Go.RowKit

theorem and63 (b : Int) (h : U64 b) : bits .and .u64 b 9223372036854775807 = b % 9223372036854775808 := bits_mask .u64 64 (by decide) wraps_u64 63 (by decide) b h.1 h.2

theorem fNaN_and (b : Int) (h : U64 b) : decide (9218868437227405312 < bits .and .u64 b 9223372036854775807) = fNaN b := by
  obtain ⟨h0, h1⟩ := h
  rw [and63 b ⟨h0, h1⟩, fNaN_iff]
  congr 1
  apply propext
  omega

set_option maxRecDepth 100000 in
set_option maxHeartbeats 2000000 in
theorem rIsNaN_c (b : Int) (w : World) (h : U64 b) : Calls Tryz.prog 113 #[.int .u64 b] w fun e w' => e = .returned (.bool (fNaN b)) ∧ w = w' := by
  have h2 := fNaN_and b h
  go_enter Tryz.func113, Tryz.ntmps113
  go_wp2_with fail
  go_ret
  exact ⟨rfl, rfl⟩

set_option maxRecDepth 100000 in
set_option maxHeartbeats 2000000 in
theorem rPlain_c (b : Int) (w : World) (h : U64 b) : Calls Tryz.prog 89 #[.int .u64 b] w fun e w' => e = .returned (.int .u64 (plainI b)) ∧ w = w' := by
  have hm : fNaN 9223372036854775808 = false := by kernel_rfl
  go_enter Tryz.func89, Tryz.ntmps89
  go_wp2_with (go_at_call 113; refine (rIsNaN_c _ _ h).mono ?_; rintro e w' ⟨rfl, rfl⟩)
  · go_ret; refine ⟨?_, rfl⟩
    have hb : b = 9223372036854775808 := by have : (b == 9223372036854775808) = true := by assumption
                                            simpa using this
    subst hb; rfl
  · go_ret; refine ⟨?_, rfl⟩
    have hN : fNaN b = true := by assumption
    simp only [plainI, hN, if_true]; rfl
  · go_ret; refine ⟨?_, rfl⟩
    have hN : fNaN b = false := by assumption
    have hb : (b == 9223372036854775808) = false := by assumption
    simp only [plainI, hN, hb]; rfl

theorem xor_max (b : Int) (h : U64 b) : bits .xor .u64 IntKind.u64.max b = 18446744073709551615 - b := by
  obtain ⟨h0, h1⟩ := h
  show IntKind.u64.wrap (((BitVec.ofInt 64 18446744073709551615) ^^^ (BitVec.ofInt 64 b)).toNat : Int) = _
  rw [BitVec.toNat_xor, BitVec.toNat_ofInt, BitVec.toNat_ofInt]
  have e1 : ((18446744073709551615 : Int) % ((2 ^ 64 : Nat) : Int)).toNat = 2 ^ 64 - 1 := by decide
  have e2 : (b % ((2 ^ 64 : Nat) : Int)).toNat = b.toNat := by
    have : ((2 ^ 64 : Nat) : Int) = 18446744073709551616 := by decide
    omega
  rw [e1, e2, Lib.xor_ones64 _ (by omega), IntKind.wrap_u64]
  omega

def rKey (b : Int) : Int := if b < 9223372036854775808 then b + 9223372036854775808 else 18446744073709551615 - b
set_option maxRecDepth 100000 in
set_option maxHeartbeats 2000000 in
theorem rKey_c (b : Int) (w : World) (h : U64 b) : Calls Tryz.prog 95 #[.int .u64 b] w fun e w' => e = .returned (.int .u64 (rKey b)) ∧ w = w' := by
  go_enter Tryz.func95, Tryz.ntmps95
  have hx := xor_max b h
  go_wp2_with fail
  · go_ret; refine ⟨?_, rfl⟩
    have hb : (b / 9223372036854775808 == 1) = true := by assumption
    have hb2 : b / 9223372036854775808 = 1 := by simpa using hb
    have : rKey b = 18446744073709551615 - b := by unfold rKey; rw [if_neg (by omega)]
    rw [this, ← xor_max b (by assumption)]; rfl
  · go_ret; refine ⟨?_, rfl⟩
    have hb : (b / 9223372036854775808 == 1) = false := by assumption
    have hb2 : ¬ b / 9223372036854775808 = 1 := by simpa using hb
    have hlt : b < 9223372036854775808 := by have := h.2; omega
    have : rKey b = b + 9223372036854775808 := by unfold rKey; rw [if_pos hlt]
    rw [this, ← u64_orv63 b 9223372036854775808 h.1 hlt (by omega) (by omega) (by omega)]; rfl

set_option maxRecDepth 100000 in
set_option maxHeartbeats 2000000 in
theorem rSign_c (x y : Bool) (w : World) : Calls Tryz.prog 94 #[.bool x, .bool y] w fun e w' => e = .returned (.int .i64 (if x then -1 else if y then 1 else 0)) ∧ w = w' := by
  cases x <;> cases y
  all_goals
    go_enter Tryz.func94, Tryz.ntmps94
    go_wp2_with fail
    go_ret
    exact ⟨rfl, rfl⟩

theorem rPlain_q (b : Int) (w : World) (h : U64 b) : Calls Tryz.prog 89 #[.int .u64 b] w fun e w' => e = .returned (.int .u64 (plainI b)) ∧ w' = w := (rPlain_c b w h).mono fun _ _ ⟨a, b⟩ => ⟨a, b.symm⟩

theorem sound3_f {n f : Int} {t : ByteArray} (h : eqV 3 n f t 3 0 f ⟨#[]⟩ = false) : soundV 3 n f t = false := by simp [soundV, h]
theorem sound3_t {n f : Int} {t : ByteArray} (h : eqV 3 n f t 3 0 f ⟨#[]⟩ = true) : soundV 3 n f t = (plainI f == f) := by simp [soundV, h]

set_option maxRecDepth 100000 in
set_option maxHeartbeats 2000000 in
theorem rSound_c (k n f : Int) (t : ByteArray) (w : World) (hf : U64 f) :
    Calls Tryz.prog 68 #[.agg #[.int .i64 k, .int .i64 n, .int .u64 f, .string t]] w fun e w' => e = .returned (.bool (soundV k n f t)) ∧ Below w.heap.size w w' := by
  have h1 := run_eqV
  by_cases h3 : k = 3
  · subst h3
    cases he : eqV 3 n f t 3 0 f ⟨#[]⟩
    · rw [sound3_f he]
      go_enter Tryz.func68, Tryz.ntmps68
      go_wp2_with fail
      go_quiet ((go_at_call 89; exact Calls.quiet_of_same (rPlain_q _ _ hf)))
      go_wp2_with fail
      go_ret; exact ⟨rfl, below_box_drewN _ _ _⟩
    · rw [sound3_t he]
      go_enter Tryz.func68, Tryz.ntmps68
      go_wp2_with fail
      go_quiet ((go_at_call 89; exact Calls.quiet_of_same (rPlain_q _ _ hf)))
      go_wp2_with fail
      go_ret; exact ⟨rfl, below_box_drewN _ _ _⟩
  · have hk3 : (k == 3) = false := by simpa using h3
    go_enter Tryz.func68, Tryz.ntmps68
    go_wp2_with fail
    all_goals (clear h1; go_ret; refine ⟨?_, by first | exact below_box _ _ | exact below_box_drewN _ _ _⟩; congr 2; first | (simp [soundV, eqV, cast_le_4096, *]; done) | (simp_all [soundV, eqV, cast_le_4096]; done) | trace_state)

end Go.Proofs.YthpkjkcfhipjhaaGreatDoor

namespace Go.Proofs.YthpkjkcfhipjhaaGreatDoor
set_option linter.unusedVariables false
set_option linter.unusedSimpArgs false
open Go.RowKit

theorem rKey_q (b : Int) (w : World) (h : U64 b) : Calls Tryz.prog 95 #[.int .u64 b] w fun e w' => e = .returned (.int .u64 (rKey b)) ∧ w' = w := (rKey_c b w h).mono fun _ _ ⟨a, b⟩ => ⟨a, b.symm⟩
theorem rSign_q (x y : Bool) (w : World) : Calls Tryz.prog 94 #[.bool x, .bool y] w fun e w' => e = .returned (.int .i64 (if x then -1 else if y then 1 else 0)) ∧ w' = w := (rSign_c x y w).mono fun _ _ ⟨a, b⟩ => ⟨a, b.symm⟩

/-- the document's order -/
def rCmp (k n f : Int) (t : ByteArray) (k' n' f' : Int) (t' : ByteArray) : Int :=
  if !soundV k n f t || !soundV k' n' f' t' then 0
  else if k != k' then Lib.compareInt k k'
  else if k == 3 then Lib.compareInt (rKey f) (rKey f')
  else if k == 4 then Lib.compareBytes t.data.toList t'.data.toList
  else Lib.compareInt n n'

theorem sign_ci (x y : Int) : (if decide (x < y) then -1 else if decide (y < x) then 1 else 0 : Int) = Lib.compareInt x y := by
  unfold Lib.compareInt; simp

theorem less_cb : ∀ a b : List UInt8, Op.bytesLess a b = decide (Lib.compareBytes a b = -1)
  | [], [] => by simp [Op.bytesLess, Lib.compareBytes]
  | [], _ :: _ => by simp [Op.bytesLess, Lib.compareBytes]
  | _ :: _, [] => by simp [Op.bytesLess, Lib.compareBytes]
  | a :: la, b :: lb => by
    have ih := less_cb la lb
    simp only [Op.bytesLess, Lib.compareBytes, ih, u8_lt]
    by_cases h1 : a.toNat < b.toNat
    · have : a < b := (u8_lt a b).2 h1
      simp [h1, this]
    · have n1 : ¬ a < b := fun h => h1 ((u8_lt a b).1 h)
      by_cases h2 : b.toNat < a.toNat
      · have h3 : a ≠ b := fun h => by rw [u8_eq] at h; omega
        simp [h1, h2, n1, h3]
      · have h3 : a = b := by rw [u8_eq]; omega
        subst h3; simp [h1, n1]
theorem text_sign (t t' : ByteArray) : (if Op.bytesLess t.toList t'.toList then -1 else if !(Op.bytesLess t.toList t'.toList || t.toList == t'.toList) then 1 else 0 : Int) = Lib.compareBytes t.data.toList t'.data.toList := by
  rw [ByteArray.toList_eq, ByteArray.toList_eq, less_cb]
  have h1 := cb_range t.data.toList t'.data.toList
  have h2 := cb_same t.data.toList t'.data.toList
  generalize Lib.compareBytes t.data.toList t'.data.toList = c at *
  rcases h1 with rfl | rfl | rfl
  · simp
  · have := h2.1 rfl; simp [this]
  · have h3 : (t.data.toList == t'.data.toList) = false := by rw [beq_eq_false_iff_ne]; intro h; have := h2.2 h; omega
    rw [h3]; simp

theorem rSign_ci (x y : Int) (w : World) : Calls Tryz.prog 94 #[.bool (decide (x < y)), .bool (decide (y < x))] w fun e w' => e = .returned (.int .i64 (Lib.compareInt x y)) ∧ w = w' := by
  have := rSign_c (decide (x < y)) (decide (y < x)) w
  rw [sign_ci] at this; exact this
theorem rSign_tx (t t' : ByteArray) (w : World) : Calls Tryz.prog 94 #[.bool (Op.bytesLess t.toList t'.toList), .bool !(Op.bytesLess t.toList t'.toList || t.toList == t'.toList)] w fun e w' => e = .returned (.int .i64 (Lib.compareBytes t.data.toList t'.data.toList)) ∧ w = w' := by
  have := rSign_c (Op.bytesLess t.toList t'.toList) (!(Op.bytesLess t.toList t'.toList || t.toList == t'.toList)) w
  rw [text_sign] at this; exact this


theorem rSign_tx' (t t' : ByteArray) (w : World) : Calls Tryz.prog 94 #[.bool (Op.bytesLess t.toList t'.toList), .bool (!Op.bytesLess t.toList t'.toList && !t.toList == t'.toList)] w fun e w' => e = .returned (.int .i64 (Lib.compareBytes t.data.toList t'.data.toList)) ∧ w = w' := by
  rw [← Bool.not_or]; exact rSign_tx t t' w

set_option maxRecDepth 100000 in
set_option maxHeartbeats 1000000 in
theorem rCompare_0 (k n f : Int) (t : ByteArray) (k' n' f' : Int) (t' : ByteArray) (w : World) (b1 b2 : Bool) (hb : (b1 && b2) = false)
    (s1 : ∀ w, Calls Tryz.prog 68 #[.agg #[.int .i64 k, .int .i64 n, .int .u64 f, .string t]] w fun e w' => e = .returned (.bool b1) ∧ Below w.heap.size w w')
    (s2 : ∀ w, Calls Tryz.prog 68 #[.agg #[.int .i64 k', .int .i64 n', .int .u64 f', .string t']] w fun e w' => e = .returned (.bool b2) ∧ Below w.heap.size w w') :
    Calls Tryz.prog 71 #[.agg #[.int .i64 k, .int .i64 n, .int .u64 f, .string t], .agg #[.int .i64 k', .int .i64 n', .int .u64 f', .string t']] w fun e w' => e = .returned (.int .i64 0) ∧ Below w.heap.size w w' := by
  have S1 := Lib.hid s1; have S2 := Lib.hid s2; clear s1 s2
  cases b1 <;> cases b2
  all_goals try (exfalso; simp at hb; done)
  all_goals clear hb
  all_goals
    go_enter Tryz.func71, Tryz.ntmps71
    go_wp2_with (first | (go_at_call 68; (fail_if_success (have := w1)); ((with_reducible refine (S1.out _).mono ?_); rintro e w1 ⟨rfl, hb1⟩; (try (replace hb1 := below_undrew hb1)); (try (replace hb1 := below_undrewN hb1)); obtain ⟨hc1, hf1⟩ := bcell hb1; (try (have hz0_1 : w.heap.size < w1.heap.size := (by have := hb1.size; (try simp at this); omega))); (try (have hz1_1 : w.heap.size + 1 < w1.heap.size := (by have := hb1.size; (try simp at this); omega))))) | (go_at_call 68; (fail_if_success (have := w1)); ((with_reducible refine (S2.out _).mono ?_); rintro e w1 ⟨rfl, hb1⟩; (try (replace hb1 := below_undrew hb1)); (try (replace hb1 := below_undrewN hb1)); obtain ⟨hc1, hf1⟩ := bcell hb1; (try (have hz0_1 : w.heap.size < w1.heap.size := (by have := hb1.size; (try simp at this); omega))); (try (have hz1_1 : w.heap.size + 1 < w1.heap.size := (by have := hb1.size; (try simp at this); omega))))) | (go_at_call 68; (fail_if_success (have := w2)); ((with_reducible refine (S1.out _).mono ?_); rintro e w2 ⟨rfl, hb2⟩; (try (replace hb2 := below_undrew hb2)); (try (replace hb2 := below_undrewN hb2)); obtain ⟨hc2, hf2⟩ := bcell hb2; (try (have hz0_2 : w.heap.size < w2.heap.size := (by have := hb2.size; (try simp at this); omega))); (try (have hz1_2 : w.heap.size + 1 < w2.heap.size := (by have := hb2.size; (try simp at this); omega))); (try (have hz_1_2 : w1.heap.size < w2.heap.size := (by have := hb2.size; (try simp at this); omega))))) | (go_at_call 68; (fail_if_success (have := w2)); ((with_reducible refine (S2.out _).mono ?_); rintro e w2 ⟨rfl, hb2⟩; (try (replace hb2 := below_undrew hb2)); (try (replace hb2 := below_undrewN hb2)); obtain ⟨hc2, hf2⟩ := bcell hb2; (try (have hz0_2 : w.heap.size < w2.heap.size := (by have := hb2.size; (try simp at this); omega))); (try (have hz1_2 : w.heap.size + 1 < w2.heap.size := (by have := hb2.size; (try simp at this); omega))); (try (have hz_1_2 : w1.heap.size < w2.heap.size := (by have := hb2.size; (try simp at this); omega))))))
    go_ret; exact ⟨rfl, (by repeat (first | (with_reducible exact Below.refl _ _) | (with_reducible refine below_al ?_ _) | (with_reducible refine below_drewN ?_ _) | (with_reducible refine Below.drew ?_) | (with_reducible refine below_via (by assumption) ?_) | (with_reducible refine below_sc ?_ ?_ _; · (first | (simp; done) | (simp; omega) | omega))))⟩

set_option maxRecDepth 100000 in
set_option maxHeartbeats 1000000 in
theorem rCompare_k (k n f : Int) (t : ByteArray) (k' n' f' : Int) (t' : ByteArray) (w : World) (hk : (k == k') = false)
    (s1 : ∀ w, Calls Tryz.prog 68 #[.agg #[.int .i64 k, .int .i64 n, .int .u64 f, .string t]] w fun e w' => e = .returned (.bool true) ∧ Below w.heap.size w w')
    (s2 : ∀ w, Calls Tryz.prog 68 #[.agg #[.int .i64 k', .int .i64 n', .int .u64 f', .string t']] w fun e w' => e = .returned (.bool true) ∧ Below w.heap.size w w') :
    Calls Tryz.prog 71 #[.agg #[.int .i64 k, .int .i64 n, .int .u64 f, .string t], .agg #[.int .i64 k', .int .i64 n', .int .u64 f', .string t']] w fun e w' => e = .returned (.int .i64 (Lib.compareInt k k')) ∧ Below w.heap.size w w' := by
  have S1 := Lib.hid s1; have S2 := Lib.hid s2; clear s1 s2
  go_enter Tryz.func71, Tryz.ntmps71
  go_wp2_with (first | (first | (go_at_call 68; (fail_if_success (have := w1)); ((with_reducible refine (S1.out _).mono ?_); rintro e w1 ⟨rfl, hb1⟩; (try (replace hb1 := below_undrew hb1)); (try (replace hb1 := below_undrewN hb1)); obtain ⟨hc1, hf1⟩ := bcell hb1; (try (have hz0_1 : w.heap.size < w1.heap.size := (by have := hb1.size; (try simp at this); omega))); (try (have hz1_1 : w.heap.size + 1 < w1.heap.size := (by have := hb1.size; (try simp at this); omega))))) | (go_at_call 68; (fail_if_success (have := w1)); ((with_reducible refine (S2.out _).mono ?_); rintro e w1 ⟨rfl, hb1⟩; (try (replace hb1 := below_undrew hb1)); (try (replace hb1 := below_undrewN hb1)); obtain ⟨hc1, hf1⟩ := bcell hb1; (try (have hz0_1 : w.heap.size < w1.heap.size := (by have := hb1.size; (try simp at this); omega))); (try (have hz1_1 : w.heap.size + 1 < w1.heap.size := (by have := hb1.size; (try simp at this); omega))))) | (go_at_call 68; (fail_if_success (have := w2)); ((with_reducible refine (S1.out _).mono ?_); rintro e w2 ⟨rfl, hb2⟩; (try (replace hb2 := below_undrew hb2)); (try (replace hb2 := below_undrewN hb2)); obtain ⟨hc2, hf2⟩ := bcell hb2; (try (have hz0_2 : w.heap.size < w2.heap.size := (by have := hb2.size; (try simp at this); omega))); (try (have hz1_2 : w.heap.size + 1 < w2.heap.size := (by have := hb2.size; (try simp at this); omega))); (try (have hz_1_2 : w1.heap.size < w2.heap.size := (by have := hb2.size; (try simp at this); omega))))) | (go_at_call 68; (fail_if_success (have := w2)); ((with_reducible refine (S2.out _).mono ?_); rintro e w2 ⟨rfl, hb2⟩; (try (replace hb2 := below_undrew hb2)); (try (replace hb2 := below_undrewN hb2)); obtain ⟨hc2, hf2⟩ := bcell hb2; (try (have hz0_2 : w.heap.size < w2.heap.size := (by have := hb2.size; (try simp at this); omega))); (try (have hz1_2 : w.heap.size + 1 < w2.heap.size := (by have := hb2.size; (try simp at this); omega))); (try (have hz_1_2 : w1.heap.size < w2.heap.size := (by have := hb2.size; (try simp at this); omega)))))) | (go_at_call 94; ((with_reducible refine (rSign_ci k k' _).mono ?_); rintro e w' ⟨rfl, rfl⟩)))
  go_ret; exact ⟨rfl, (by repeat (first | (with_reducible exact Below.refl _ _) | (with_reducible refine below_al ?_ _) | (with_reducible refine below_drewN ?_ _) | (with_reducible refine Below.drew ?_) | (with_reducible refine below_via (by assumption) ?_) | (with_reducible refine below_sc ?_ ?_ _; · (first | (simp; done) | (simp; omega) | omega))))⟩

set_option maxRecDepth 100000 in
set_option maxHeartbeats 1000000 in
theorem rCompare_n (k n f : Int) (t : ByteArray) (n' f' : Int) (t' : ByteArray) (w : World) (h3 : (k == 3) = false) (h4 : (k == 4) = false)
    (s1 : ∀ w, Calls Tryz.prog 68 #[.agg #[.int .i64 k, .int .i64 n, .int .u64 f, .string t]] w fun e w' => e = .returned (.bool true) ∧ Below w.heap.size w w')
    (s2 : ∀ w, Calls Tryz.prog 68 #[.agg #[.int .i64 k, .int .i64 n', .int .u64 f', .string t']] w fun e w' => e = .returned (.bool true) ∧ Below w.heap.size w w') :
    Calls Tryz.prog 71 #[.agg #[.int .i64 k, .int .i64 n, .int .u64 f, .string t], .agg #[.int .i64 k, .int .i64 n', .int .u64 f', .string t']] w fun e w' => e = .returned (.int .i64 (Lib.compareInt n n')) ∧ Below w.heap.size w w' := by
  have S1 := Lib.hid s1; have S2 := Lib.hid s2; clear s1 s2
  go_enter Tryz.func71, Tryz.ntmps71
  go_wp2_with (first | (first | (go_at_call 68; (fail_if_success (have := w1)); ((with_reducible refine (S1.out _).mono ?_); rintro e w1 ⟨rfl, hb1⟩; (try (replace hb1 := below_undrew hb1)); (try (replace hb1 := below_undrewN hb1)); obtain ⟨hc1, hf1⟩ := bcell hb1; (try (have hz0_1 : w.heap.size < w1.heap.size := (by have := hb1.size; (try simp at this); omega))); (try (have hz1_1 : w.heap.size + 1 < w1.heap.size := (by have := hb1.size; (try simp at this); omega))))) | (go_at_call 68; (fail_if_success (have := w1)); ((with_reducible refine (S2.out _).mono ?_); rintro e w1 ⟨rfl, hb1⟩; (try (replace hb1 := below_undrew hb1)); (try (replace hb1 := below_undrewN hb1)); obtain ⟨hc1, hf1⟩ := bcell hb1; (try (have hz0_1 : w.heap.size < w1.heap.size := (by have := hb1.size; (try simp at this); omega))); (try (have hz1_1 : w.heap.size + 1 < w1.heap.size := (by have := hb1.size; (try simp at this); omega))))) | (go_at_call 68; (fail_if_success (have := w2)); ((with_reducible refine (S1.out _).mono ?_); rintro e w2 ⟨rfl, hb2⟩; (try (replace hb2 := below_undrew hb2)); (try (replace hb2 := below_undrewN hb2)); obtain ⟨hc2, hf2⟩ := bcell hb2; (try (have hz0_2 : w.heap.size < w2.heap.size := (by have := hb2.size; (try simp at this); omega))); (try (have hz1_2 : w.heap.size + 1 < w2.heap.size := (by have := hb2.size; (try simp at this); omega))); (try (have hz_1_2 : w1.heap.size < w2.heap.size := (by have := hb2.size; (try simp at this); omega))))) | (go_at_call 68; (fail_if_success (have := w2)); ((with_reducible refine (S2.out _).mono ?_); rintro e w2 ⟨rfl, hb2⟩; (try (replace hb2 := below_undrew hb2)); (try (replace hb2 := below_undrewN hb2)); obtain ⟨hc2, hf2⟩ := bcell hb2; (try (have hz0_2 : w.heap.size < w2.heap.size := (by have := hb2.size; (try simp at this); omega))); (try (have hz1_2 : w.heap.size + 1 < w2.heap.size := (by have := hb2.size; (try simp at this); omega))); (try (have hz_1_2 : w1.heap.size < w2.heap.size := (by have := hb2.size; (try simp at this); omega)))))) | (go_at_call 94; ((with_reducible refine (rSign_ci n n' _).mono ?_); rintro e w' ⟨rfl, rfl⟩)))
  go_ret; exact ⟨rfl, (by repeat (first | (with_reducible exact Below.refl _ _) | (with_reducible refine below_al ?_ _) | (with_reducible refine below_drewN ?_ _) | (with_reducible refine Below.drew ?_) | (with_reducible refine below_via (by assumption) ?_) | (with_reducible refine below_sc ?_ ?_ _; · (first | (simp; done) | (simp; omega) | omega))))⟩

set_option maxRecDepth 100000 in
set_option maxHeartbeats 1000000 in
theorem rCompare_t (n f : Int) (t : ByteArray) (n' f' : Int) (t' : ByteArray) (w : World)
    (s1 : ∀ w, Calls Tryz.prog 68 #[.agg #[.int .i64 4, .int .i64 n, .int .u64 f, .string t]] w fun e w' => e = .returned (.bool true) ∧ Below w.heap.size w w')
    (s2 : ∀ w, Calls Tryz.prog 68 #[.agg #[.int .i64 4, .int .i64 n', .int .u64 f', .string t']] w fun e w' => e = .returned (.bool true) ∧ Below w.heap.size w w') :
    Calls Tryz.prog 71 #[.agg #[.int .i64 4, .int .i64 n, .int .u64 f, .string t], .agg #[.int .i64 4, .int .i64 n', .int .u64 f', .string t']] w fun e w' => e = .returned (.int .i64 (Lib.compareBytes t.data.toList t'.data.toList)) ∧ Below w.heap.size w w' := by
  have S1 := Lib.hid s1; have S2 := Lib.hid s2; clear s1 s2
  go_enter Tryz.func71, Tryz.ntmps71
  go_wp2_with (first | (first | (go_at_call 68; (fail_if_success (have := w1)); ((with_reducible refine (S1.out _).mono ?_); rintro e w1 ⟨rfl, hb1⟩; (try (replace hb1 := below_undrew hb1)); (try (replace hb1 := below_undrewN hb1)); obtain ⟨hc1, hf1⟩ := bcell hb1; (try (have hz0_1 : w.heap.size < w1.heap.size := (by have := hb1.size; (try simp at this); omega))); (try (have hz1_1 : w.heap.size + 1 < w1.heap.size := (by have := hb1.size; (try simp at this); omega))))) | (go_at_call 68; (fail_if_success (have := w1)); ((with_reducible refine (S2.out _).mono ?_); rintro e w1 ⟨rfl, hb1⟩; (try (replace hb1 := below_undrew hb1)); (try (replace hb1 := below_undrewN hb1)); obtain ⟨hc1, hf1⟩ := bcell hb1; (try (have hz0_1 : w.heap.size < w1.heap.size := (by have := hb1.size; (try simp at this); omega))); (try (have hz1_1 : w.heap.size + 1 < w1.heap.size := (by have := hb1.size; (try simp at this); omega))))) | (go_at_call 68; (fail_if_success (have := w2)); ((with_reducible refine (S1.out _).mono ?_); rintro e w2 ⟨rfl, hb2⟩; (try (replace hb2 := below_undrew hb2)); (try (replace hb2 := below_undrewN hb2)); obtain ⟨hc2, hf2⟩ := bcell hb2; (try (have hz0_2 : w.heap.size < w2.heap.size := (by have := hb2.size; (try simp at this); omega))); (try (have hz1_2 : w.heap.size + 1 < w2.heap.size := (by have := hb2.size; (try simp at this); omega))); (try (have hz_1_2 : w1.heap.size < w2.heap.size := (by have := hb2.size; (try simp at this); omega))))) | (go_at_call 68; (fail_if_success (have := w2)); ((with_reducible refine (S2.out _).mono ?_); rintro e w2 ⟨rfl, hb2⟩; (try (replace hb2 := below_undrew hb2)); (try (replace hb2 := below_undrewN hb2)); obtain ⟨hc2, hf2⟩ := bcell hb2; (try (have hz0_2 : w.heap.size < w2.heap.size := (by have := hb2.size; (try simp at this); omega))); (try (have hz1_2 : w.heap.size + 1 < w2.heap.size := (by have := hb2.size; (try simp at this); omega))); (try (have hz_1_2 : w1.heap.size < w2.heap.size := (by have := hb2.size; (try simp at this); omega)))))) | (go_at_call 94; ((with_reducible refine (rSign_tx' t t' _).mono ?_); rintro e w' ⟨rfl, rfl⟩)))
  go_ret; exact ⟨rfl, (by repeat (first | (with_reducible exact Below.refl _ _) | (with_reducible refine below_al ?_ _) | (with_reducible refine below_drewN ?_ _) | (with_reducible refine Below.drew ?_) | (with_reducible refine below_via (by assumption) ?_) | (with_reducible refine below_sc ?_ ?_ _; · (first | (simp; done) | (simp; omega) | omega))))⟩

set_option maxRecDepth 100000 in
set_option maxHeartbeats 1000000 in
theorem rCompare_f (n f : Int) (t : ByteArray) (n' f' : Int) (t' : ByteArray) (w : World) (hf : U64 f) (hf' : U64 f')
    (s1 : ∀ w, Calls Tryz.prog 68 #[.agg #[.int .i64 3, .int .i64 n, .int .u64 f, .string t]] w fun e w' => e = .returned (.bool true) ∧ Below w.heap.size w w')
    (s2 : ∀ w, Calls Tryz.prog 68 #[.agg #[.int .i64 3, .int .i64 n', .int .u64 f', .string t']] w fun e w' => e = .returned (.bool true) ∧ Below w.heap.size w w') :
    Calls Tryz.prog 71 #[.agg #[.int .i64 3, .int .i64 n, .int .u64 f, .string t], .agg #[.int .i64 3, .int .i64 n', .int .u64 f', .string t']] w fun e w' => e = .returned (.int .i64 (Lib.compareInt (rKey f) (rKey f'))) ∧ Below w.heap.size w w' := by
  have S1 := Lib.hid s1; have S2 := Lib.hid s2; clear s1 s2
  have K1 := Lib.hid (fun w => rKey_q f w hf); have K2 := Lib.hid (fun w => rKey_q f' w hf'); clear hf hf'
  go_enter Tryz.func71, Tryz.ntmps71
  go_wp2_with (first | (first | (go_at_call 68; (fail_if_success (have := w1)); ((with_reducible refine (S1.out _).mono ?_); rintro e w1 ⟨rfl, hb1⟩; (try (replace hb1 := below_undrew hb1)); (try (replace hb1 := below_undrewN hb1)); obtain ⟨hc1, hf1⟩ := bcell hb1; (try (have hz0_1 : w.heap.size < w1.heap.size := (by have := hb1.size; (try simp at this); omega))); (try (have hz1_1 : w.heap.size + 1 < w1.heap.size := (by have := hb1.size; (try simp at this); omega))))) | (go_at_call 68; (fail_if_success (have := w1)); ((with_reducible refine (S2.out _).mono ?_); rintro e w1 ⟨rfl, hb1⟩; (try (replace hb1 := below_undrew hb1)); (try (replace hb1 := below_undrewN hb1)); obtain ⟨hc1, hf1⟩ := bcell hb1; (try (have hz0_1 : w.heap.size < w1.heap.size := (by have := hb1.size; (try simp at this); omega))); (try (have hz1_1 : w.heap.size + 1 < w1.heap.size := (by have := hb1.size; (try simp at this); omega))))) | (go_at_call 68; (fail_if_success (have := w2)); ((with_reducible refine (S1.out _).mono ?_); rintro e w2 ⟨rfl, hb2⟩; (try (replace hb2 := below_undrew hb2)); (try (replace hb2 := below_undrewN hb2)); obtain ⟨hc2, hf2⟩ := bcell hb2; (try (have hz0_2 : w.heap.size < w2.heap.size := (by have := hb2.size; (try simp at this); omega))); (try (have hz1_2 : w.heap.size + 1 < w2.heap.size := (by have := hb2.size; (try simp at this); omega))); (try (have hz_1_2 : w1.heap.size < w2.heap.size := (by have := hb2.size; (try simp at this); omega))))) | (go_at_call 68; (fail_if_success (have := w2)); ((with_reducible refine (S2.out _).mono ?_); rintro e w2 ⟨rfl, hb2⟩; (try (replace hb2 := below_undrew hb2)); (try (replace hb2 := below_undrewN hb2)); obtain ⟨hc2, hf2⟩ := bcell hb2; (try (have hz0_2 : w.heap.size < w2.heap.size := (by have := hb2.size; (try simp at this); omega))); (try (have hz1_2 : w.heap.size + 1 < w2.heap.size := (by have := hb2.size; (try simp at this); omega))); (try (have hz_1_2 : w1.heap.size < w2.heap.size := (by have := hb2.size; (try simp at this); omega)))))))
  go_quiet (first
    | (go_at_call 95; with_reducible exact Calls.quiet_of_same (K1.out _))
    | (go_at_call 95; with_reducible exact Calls.quiet_of_same (K2.out _))
    | (go_at_call 94; with_reducible exact Calls.quiet_of_same ((rSign_ci (rKey f) (rKey f') _).mono fun _ _ ⟨a, b⟩ => ⟨a, b.symm⟩)))
  go_wp2_with fail
  go_ret; exact ⟨rfl, (by repeat (first | (with_reducible exact Below.refl _ _) | (with_reducible refine below_al ?_ _) | (with_reducible refine below_drewN ?_ _) | (with_reducible refine Below.drew ?_) | (with_reducible refine below_via (by assumption) ?_) | (with_reducible refine below_sc ?_ ?_ _; · (first | (simp; done) | (simp; omega) | omega))))⟩

theorem rCompare_c (k n f : Int) (t : ByteArray) (k' n' f' : Int) (t' : ByteArray) (w : World) (hf : U64 f) (hf' : U64 f') : Calls Tryz.prog 71 #[.agg #[.int .i64 k, .int .i64 n, .int .u64 f, .string t], .agg #[.int .i64 k', .int .i64 n', .int .u64 f', .string t']] w fun e w' => e = .returned (.int .i64 (rCmp k n f t k' n' f' t')) ∧ Below w.heap.size w w' := by
  have S1 := fun w => rSound_c k n f t w hf
  have S2 := fun w => rSound_c k' n' f' t' w hf'
  cases hb : (soundV k n f t && soundV k' n' f' t') with
  | false =>
    have : rCmp k n f t k' n' f' t' = 0 := by unfold rCmp; rw [← Bool.not_and, hb]; rfl
    rw [this]; exact rCompare_0 k n f t k' n' f' t' w _ _ hb S1 S2
  | true =>
    obtain ⟨h1, h2⟩ := Bool.and_eq_true_iff.1 hb
    rw [h1] at S1; rw [h2] at S2
    cases hk : (k == k') with
    | false =>
      have : rCmp k n f t k' n' f' t' = Lib.compareInt k k' := by simp [rCmp, h1, h2, bne, hk]
      rw [this]; exact rCompare_k k n f t k' n' f' t' w hk S1 S2
    | true =>
      obtain rfl : k = k' := by simpa using hk
      cases h3 : (k == 3) with
      | true =>
        obtain rfl : k = 3 := by simpa using h3
        have : rCmp 3 n f t 3 n' f' t' = Lib.compareInt (rKey f) (rKey f') := by simp [rCmp, h1, h2]
        rw [this]; exact rCompare_f n f t n' f' t' w hf hf' S1 S2
      | false =>
        cases h4 : (k == 4) with
        | true =>
          obtain rfl : k = 4 := by simpa using h4
          have : rCmp 4 n f t 4 n' f' t' = Lib.compareBytes t.data.toList t'.data.toList := by simp [rCmp, h1, h2]
          rw [this]; exact rCompare_t n f t n' f' t' w S1 S2
        | false =>
          have : rCmp k n f t k n' f' t' = Lib.compareInt n n' := by simp [rCmp, h1, h2, h3, h4]
          rw [this]; exact rCompare_n k n f t n' f' t' w h3 h4 S1 S2

end Go.Proofs.YthpkjkcfhipjhaaGreatDoor

namespace Go.Proofs.YthpkjkcfhipjhaaGreatDoor
set_option linter.unusedVariables false
set_option linter.unusedSimpArgs false
open Go.RowKit

theorem ci_congr {a b c d : Int} (h1 : a < b ↔ c < d) (h2 : b < a ↔ d < c) : Lib.compareInt a b = Lib.compareInt c d := by
  unfold Lib.compareInt
  by_cases x : a < b
  · rw [if_pos x, if_pos (h1.1 x)]
  · rw [if_neg x, if_neg (fun y => x (h1.2 y))]
    by_cases z : b < a
    · rw [if_pos z, if_pos (h2.1 z)]
    · rw [if_neg z, if_neg (fun y => z (h2.2 y))]

theorem fkey_lt {x y : Int} (ux : 0 ≤ x ∧ x < 18446744073709551616) (uy : 0 ≤ y ∧ y < 18446744073709551616) (px : plainI x = x) (py : plainI y = y) : fkey x.toNat < fkey y.toNat ↔ rKey x < rKey y := by
  have lx := sr_lt x.toNat
  have ly := sr_lt y.toNat
  have cx : ∀ x : Int, 0 ≤ x → fNaN x.toNat = fNaN x := fun x hx => by rw [show ((x.toNat : Nat) : Int) = x by omega]
  have nanv : ∀ z : Int, fNaN z = true → plainI z = z → z = 9221120237041090560 := fun z h p => by simp only [plainI, h, if_true] at p; exact p.symm
  have fin : ∀ z : Int, 0 ≤ z → z < 18446744073709551616 → fNaN z = false → z ≤ 9218868437227405312 ∨ (9223372036854775808 ≤ z ∧ z ≤ 18442240474082181120) := fun z h0 h1 h => by
    have := fNaN_iff z
    rw [h] at this
    have := this.symm
    simp only [decide_eq_false_iff_not] at this
    omega
  unfold fkey
  rw [cx x ux.1, cx y uy.1]
  cases hx : fNaN x <;> cases hy : fNaN y
  · simp only [Bool.false_eq_true, if_false]
    have nx : x ≠ 9223372036854775808 := fun e => by subst e; revert px; decide +kernel
    have ny : y ≠ 9223372036854775808 := fun e => by subst e; revert py; decide +kernel
    have hx2 : x.toNat / 9223372036854775808 = 0 ∨ x.toNat / 9223372036854775808 = 1 := by omega
    have hy2 : y.toNat / 9223372036854775808 = 0 ∨ y.toNat / 9223372036854775808 = 1 := by omega
    unfold sr negW rungW rKey
    rcases hx2 with e1 | e1 <;> rcases hy2 with e2 | e2 <;> rw [e1, e2] <;> simp <;> split <;> split <;> omega
  · have e := nanv y hy py
    have := fin x ux.1 ux.2 hx
    simp only [Bool.false_eq_true, if_false, if_true]
    have r : rKey y = 18444492273895866368 := by subst e; decide
    rw [r]
    have : rKey x < 18444492273895866368 := by unfold rKey; split <;> omega
    exact ⟨fun _ => this, fun _ => lx.2⟩
  · have e := nanv x hx px
    have := fin y uy.1 uy.2 hy
    simp only [Bool.false_eq_true, if_false, if_true]
    have r : rKey x = 18444492273895866368 := by subst e; decide
    rw [r]
    have : ¬ 18444492273895866368 < rKey y := by unfold rKey; split <;> omega
    exact ⟨fun h => by omega, fun h => absurd h this⟩
  · rw [nanv x hx px, nanv y hy py]
    simp

theorem rCmp_eq (k n f : Int) (t : ByteArray) (k' n' f' : Int) (t' : ByteArray) (hf : U64 f) (hf' : U64 f') : rCmp k n f t k' n' f' t' = cmpV k n f t k' n' f' t' := by
  unfold rCmp cmpV
  cases h1 : soundV k n f t <;> cases h2 : soundV k' n' f' t'
  · rfl
  · rfl
  · rfl
  · simp only [Bool.not_true, Bool.or_self, Bool.false_eq_true, if_false]
    cases hk : (k != k') with
    | true => rfl
    | false =>
      simp only [Bool.false_eq_true, if_false]
      obtain rfl : k = k' := by simpa using hk
      cases h3 : (k == 3) with
      | false => rfl
      | true =>
        simp only [if_true]
        obtain rfl : k = 3 := by simpa using h3
        have p : plainI f = f := by simp [soundV] at h1; exact h1.2
        have p' : plainI f' = f' := by simp [soundV] at h2; exact h2.2
        rw [cmpF_key]
        exact (ci_congr (fkey_lt hf hf' p p') (fkey_lt hf' hf p' p)).symm

theorem rCompare_v (k n f : Int) (t : ByteArray) (k' n' f' : Int) (t' : ByteArray) (w : World) (hf : U64 f) (hf' : U64 f') : Calls Tryz.prog 71 #[.agg #[.int .i64 k, .int .i64 n, .int .u64 f, .string t], .agg #[.int .i64 k', .int .i64 n', .int .u64 f', .string t']] w fun e w' => e = .returned (.int .i64 (cmpV k n f t k' n' f' t')) ∧ Below w.heap.size w w' := by
  rw [← rCmp_eq k n f t k' n' f' t' hf hf']; exact rCompare_c k n f t k' n' f' t' w hf hf'

end Go.Proofs.YthpkjkcfhipjhaaGreatDoor
