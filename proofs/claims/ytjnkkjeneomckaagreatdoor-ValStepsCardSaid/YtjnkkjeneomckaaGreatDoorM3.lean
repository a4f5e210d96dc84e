/- A strings.Builder that a call has made: what its writers do (lines of the library's own proofs, turned to this translation). A text between quotes, as val writes it. A text's spelling; the closed conditions that every law asks first. -/
import Derived.Test.YtjnkkjeneomckaaGreatDoorM1
import Derived.Test.YtjnkkjeneomckaaGreatDoorShelf
import Derived.Lib.Builder
import Derived.Lib.AppendStr
import Derived.Lib.UnsafeStr
import Derived.RegionTactic
import Derived.StillTailTactics
import Derived.Deep.RegionWith
import Derived.Test.YtjnkkjeneomckaaGreatDoorM2
import Derived.BigQuiet
namespace Go.Proofs.YtjnkkjeneomckaaGreatDoor
set_option linter.unusedVariables false
set_option linter.unusedSimpArgs false
open Go.RowKit

theorem sizeBuilder : (Tryz.prog.info? 75).map (·.size) = some 2 := by kernel_rfl
theorem liesBuilder : liesAt Tryz.prog Tryz.prog.depth 75 (2 / Tryz.prog.cellsOf 75) 0 75 1 = true := by kernel_rfl
theorem infoByte : (Tryz.prog.info? 5).map (fun i => (i.zero, i.size, i.bytes)) = some (some (.int .u8 0), 1, 1) := by kernel_rfl

set_option maxHeartbeats 1000000 in
set_option maxRecDepth 100000 in
theorem copyCheck_used (b : Nat) (w : World) (h0 : w.cell? ⟨b, 0, none⟩ = some (.pointer (some ⟨b, 0, none⟩))) :
    Calls Tryz.prog 78 #[.pointer (some ⟨b, 0, none⟩)] w fun e w' => e = .returned (.tuple #[]) ∧ w = w' := by
  obtain ⟨j, hj, _⟩ := Option.map_eq_some_iff.1 sizeBuilder
  go_enter Tryz.func78, Tryz.ntmps78
  go_wp2
  rw [Lib.run_neq_ptr_same w _ Tryz.underlying72 hj]
  go_wp2
  go_end0
  exact ⟨rfl, rfl⟩

set_option maxHeartbeats 1000000 in
set_option maxRecDepth 100000 in
theorem copyCheck_fresh (b : Nat) (w : World) (h0 : w.cell? ⟨b, 0, none⟩ = some (.pointer none)) (hsh : w.shape? b = some (75, 2)) (hfz : w.frozen? ⟨b, 0, none⟩ = false) :
    Calls Tryz.prog 78 #[.pointer (some ⟨b, 0, none⟩)] w fun e w' => e = .returned (.tuple #[]) ∧ w' = w.setCell ⟨b, 0, none⟩ (.pointer (some ⟨b, 0, none⟩)) := by
  obtain ⟨j, hj, hjs⟩ := Option.map_eq_some_iff.1 sizeBuilder
  go_enter Tryz.func78, Tryz.ntmps78
  go_wp2
  rw [Lib.run_to_unsafe w ⟨b, 0, none⟩ Tryz.underlying72 Tryz.underlying106 hj (by rw [hjs]; decide) hsh (Nat.zero_lt_succ 1)]
  simp only [Result.andThen]
  rw [Oper.upon_value]
  go_wp2
  rw [run_callFunc_extern Tryz.func92 (by kernel_rfl) (by kernel_rfl) (by kernel_rfl) (e := Extern.AbiNoEscape.same) (by kernel_rfl)]
  rw [Lib.run_noEscape]
  simp only [Result.andThen]
  rw [Oper.upon_value]
  go_wp2
  rw [Lib.run_from_unsafe w ⟨b, 0, none⟩ Tryz.underlying106 Tryz.underlying72 hj hsh liesBuilder]
  simp only [Result.andThen]
  rw [Oper.upon_value]
  go_wp2
  go_end0
  exact ⟨rfl, rfl⟩

/-- the builder in block b holds these bytes -/
def Bld (B b : Nat) (l : List UInt8) (w : World) : Prop := Lib.IsBuilder 75 5 B b (Lib.byteCells l) w

theorem copyCheck_b (B b : Nat) (bs : List Value) (w : World) (h : Lib.IsBuilder 75 5 B b bs w) :
    Calls Tryz.prog 78 #[.pointer (some ⟨b, 0, none⟩)] w fun e w' => e = .returned (.tuple #[]) ∧ (Lib.BuilderAt 75 5 B b (.pointer (some ⟨b, 0, none⟩)) bs w' ∧ Below B w w' ∧ ∀ k, k ≠ b → w'.heap[k]? = w.heap[k]?) := by
  rcases h with h | h
  · refine (copyCheck_fresh b w h.cell0 h.shape h.frozen0).mono ?_
    rintro e w' ⟨rfl, rfl⟩
    exact ⟨rfl, h.used _, (Below.refl B w).setCell (p := ⟨b, 0, none⟩) h.1 _, fun k hk => Below.heap_setCell _ _ _ _ hk⟩
  · refine (copyCheck_used b w h.cell0).mono ?_
    rintro e w' ⟨rfl, rfl⟩
    exact ⟨rfl, h, Below.refl B _, fun _ _ => rfl⟩

theorem byteCells_app (l m : List UInt8) : Lib.byteCells (l ++ m) = Lib.byteCells l ++ Lib.byteCells m := by simp [Lib.byteCells]

set_option maxHeartbeats 2000000 in
set_option maxRecDepth 100000 in
theorem writeByte_c (B b : Nat) (l : List UInt8) (c : UInt8) (w : World) (h : Bld B b l w) (hlen : l.length + 1 ≤ 140737488355328) (hBw : B ≤ w.heap.size) :
    Calls Tryz.prog 62 #[.pointer (some ⟨b, 0, none⟩), .int .u8 c.toNat] w fun e w' => e = .returned .nilIface ∧ Bld B b (l ++ [c]) w' ∧ Below B w w' := by
  obtain ⟨i0, hi, hz0, hz1, hz2⟩ := info_parts infoByte
  have hll : (Lib.byteCells l).length = l.length := by simp [Lib.byteCells]
  go_enter Tryz.func62, Tryz.ntmps62
  go_wp2_with (go_at_call 78; refine (copyCheck_b B b _ _ h).mono ?_)
  rintro e w1 ⟨rfl, h1, hb1, _⟩
  obtain ⟨hB, v, hbk, hown, hne⟩ := h1
  have c0 : w1.cell? ⟨b, 0, none⟩ = some (.pointer (some ⟨b, 0, none⟩)) := by rw [Lib.cell_of_heap hbk]; rfl
  have c1 : w1.cell? ⟨b, 1, none⟩ = some v := by rw [Lib.cell_of_heap hbk]; rfl
  go_wp2_with (at_builtin; refine wpList_append_own _ rfl _ _ 73 rfl B 5 i0 (.int .u8 0) 1 1 Tryz.underlying73 hi hz0 hz1 hz2 rfl (by decide) _ _ _ rfl (hown.alloc _) ⟨w1.heap.size, 0, none⟩ 1 1 [.int .u8 c.toNat] rfl rfl ?c1 ?c2 ?c3 ?c4 ?c5 ?_)
  case c1 =>
    intro j u hj
    match j, hj with
    | 0, hj => simp at hj; subst hj; simp [Addr.add]
  case c2 => intro u hu; simp at hu; subst hu; rfl
  case c3 => unfold maxLen; omega
  case c4 => omega
  case c5 => have := hb1.size; simp; omega
  intro v' w2 hown' hgrow _
  have hlt : b < w1.heap.size := by
    rcases Nat.lt_or_ge b w1.heap.size with h' | h'
    · exact h'
    · simp [Array.getElem?_eq_none h'] at hbk
  have hb2 : w2.heap[b]? = some (.cells #[.pointer (some ⟨b, 0, none⟩), v] 75 (0, 0)) := by
    rw [hgrow.block b (by simp; omega) (fun e => hne e.symm), Lib.alloc_old w1 _ b hlt]
    exact hbk
  have d0 : w2.cell? ⟨b, 0, none⟩ = some (.pointer (some ⟨b, 0, none⟩)) := by rw [Lib.cell_of_heap hb2]; rfl
  have d1 : w2.cell? ⟨b, 1, none⟩ = some v := by rw [Lib.cell_of_heap hb2]; rfl
  have f1 : w2.frozen? ⟨b, 1, none⟩ = false := Lib.frozen_of_heap hb2 1
  obtain ⟨g, cap, rfl⟩ : ∃ g cap, v' = .slice (some ⟨g, 0, none⟩) (l.length + 1) cap := by
    rcases hown'.2 with ⟨_, h0⟩ | ⟨g, cap, cur, hv, _⟩
    · omega
    · exact ⟨g, cap, hv⟩
  go_wp2
  go_ret
  refine ⟨rfl, ?_, ?_⟩
  · refine .inr ?_
    rw [byteCells_app]
    exact Lib.BuilderAt.put (T := 75) (e := 5) hB hb2 (bs' := Lib.byteCells l ++ [.int .u8 c.toNat]) (by simpa [hll] using hown') (by decide)
  · exact ((hb1.alloc (by have := hb1.size; omega) _).grown hgrow (by have := hb1.size; simp; omega) (fun k hk => (hown.lt k hk).1)).setCell (p := ⟨b, 1, none⟩) hB _

set_option maxHeartbeats 2000000 in
set_option maxRecDepth 100000 in
theorem writeString_c (B b : Nat) (l : List UInt8) (s : ByteArray) (w : World) (h : Bld B b l w) (hlen : l.length + s.size ≤ 140737488355328) (hBw : B ≤ w.heap.size) :
    Calls Tryz.prog 63 #[.pointer (some ⟨b, 0, none⟩), .string s] w fun e w' => e = .returned (.tuple #[.int .i64 s.size, .nilIface]) ∧ Bld B b (l ++ s.data.toList) w' ∧ Below B w w' := by
  obtain ⟨i0, hi, hz0, hz1, hz2⟩ := info_parts infoByte
  have hll : (Lib.byteCells l).length = l.length := by simp [Lib.byteCells]
  go_enter Tryz.func63, Tryz.ntmps63
  go_wp2_with (go_at_call 78; refine (copyCheck_b B b _ _ h).mono ?_)
  rintro e w1 ⟨rfl, h1, hb1, _⟩
  obtain ⟨hB, v, hbk, hown, hne⟩ := h1
  have c0 : w1.cell? ⟨b, 0, none⟩ = some (.pointer (some ⟨b, 0, none⟩)) := by rw [Lib.cell_of_heap hbk]; rfl
  have c1 : w1.cell? ⟨b, 1, none⟩ = some v := by rw [Lib.cell_of_heap hbk]; rfl
  go_wp2_with (at_builtin; refine Lib.wpList_append_own_string _ rfl _ _ 73 9 rfl B 5 i0 Tryz.underlying73 Tryz.underlying9 hi hz0 hz1 hz2 _ _ _ rfl hown s rfl ?c3 ?c4 ?c5 ?_)
  case c3 => unfold maxLen; omega
  case c4 => omega
  case c5 => have := hb1.size; omega
  intro v' w2 hown' hgrow _
  have hlt : b < w1.heap.size := by
    rcases Nat.lt_or_ge b w1.heap.size with h' | h'
    · exact h'
    · simp [Array.getElem?_eq_none h'] at hbk
  have hb2 : w2.heap[b]? = some (.cells #[.pointer (some ⟨b, 0, none⟩), v] 75 (0, 0)) := by
    rw [hgrow.block b hlt (fun e => hne e.symm)]
    exact hbk
  have d0 : w2.cell? ⟨b, 0, none⟩ = some (.pointer (some ⟨b, 0, none⟩)) := by rw [Lib.cell_of_heap hb2]; rfl
  have d1 : w2.cell? ⟨b, 1, none⟩ = some v := by rw [Lib.cell_of_heap hb2]; rfl
  have f1 : w2.frozen? ⟨b, 1, none⟩ = false := Lib.frozen_of_heap hb2 1
  obtain ⟨ao, n', cap, rfl⟩ : ∃ ao n' cap, v' = .slice ao n' cap := by
    rcases hown'.2 with ⟨hv, _⟩ | ⟨g, cap, cur, hv, _⟩
    · exact ⟨_, _, _, hv⟩
    · exact ⟨_, _, _, hv⟩
  go_wp2
  go_ret2
  refine ⟨rfl, ?_, ?_⟩
  · refine .inr ?_
    rw [byteCells_app]
    exact Lib.BuilderAt.put (T := 75) (e := 5) hB hb2 (bs' := Lib.byteCells l ++ Lib.strCells s) (by simpa [Lib.strCells_length, hll] using hown') (by decide)
  · exact (hb1.grown hgrow (by have := hb1.size; omega) (fun k hk => (hown.lt k hk).1)).setCell (p := ⟨b, 1, none⟩) hB _

set_option maxHeartbeats 2000000 in
set_option maxRecDepth 100000 in
theorem write_c (B b : Nat) (l : List UInt8) (ad : Addr) (m c : Nat) (news : List UInt8) (w : World) (h : Bld B b l w) (hlen : l.length + m ≤ 140737488355328) (hBw : B ≤ w.heap.size)
    (hl : news.length = m) (hnews : ∀ j u, (Lib.byteCells news)[j]? = some u → w.cell? (ad.add j) = some u) (hadb : ad.block ≠ b) :
    Calls Tryz.prog 64 #[.pointer (some ⟨b, 0, none⟩), .slice (some ad) m c] w fun e w' => e = .returned (.tuple #[.int .i64 m, .nilIface]) ∧ Bld B b (l ++ news) w' ∧ Below B w w' := by
  obtain ⟨i0, hi, hz0, hz1, hz2⟩ := info_parts infoByte
  have hll : (Lib.byteCells l).length = l.length := by simp [Lib.byteCells]
  have hnl : (Lib.byteCells news).length = m := by simp [Lib.byteCells, hl]
  go_enter Tryz.func64, Tryz.ntmps64
  go_wp2_with (go_at_call 78; refine (copyCheck_b B b _ _ h).mono ?_)
  rintro e w1 ⟨rfl, h1, hb1, hfar⟩
  obtain ⟨hB, v, hbk, hown, hne⟩ := h1
  have c0 : w1.cell? ⟨b, 0, none⟩ = some (.pointer (some ⟨b, 0, none⟩)) := by rw [Lib.cell_of_heap hbk]; rfl
  have c1 : w1.cell? ⟨b, 1, none⟩ = some v := by rw [Lib.cell_of_heap hbk]; rfl
  have hnews1 : ∀ j u, (Lib.byteCells news)[j]? = some u → w1.cell? (ad.add j) = some u := fun j u hj => by
    rw [World.cell?_of_block (w := w) (hfar _ (by unfold Addr.add; split <;> exact hadb))]
    exact hnews j u hj
  clear hfar
  go_wp2_with (at_builtin; refine wpList_append_own _ rfl _ _ 73 rfl B 5 i0 (.int .u8 0) 1 1 Tryz.underlying73 hi hz0 hz1 hz2 rfl (by decide) _ _ _ rfl hown ad m c (Lib.byteCells news) rfl (by omega) hnews1 ?c2 ?c3 ?c4 ?c5 ?_)
  case c2 => intro u hu; simp only [Lib.byteCells, List.mem_map] at hu; obtain ⟨x, _, rfl⟩ := hu; rfl
  case c3 => unfold maxLen; omega
  case c4 => omega
  case c5 => have := hb1.size; omega
  intro v' w2 hown' hgrow _
  have hlt : b < w1.heap.size := by
    rcases Nat.lt_or_ge b w1.heap.size with h' | h'
    · exact h'
    · simp [Array.getElem?_eq_none h'] at hbk
  have hb2 : w2.heap[b]? = some (.cells #[.pointer (some ⟨b, 0, none⟩), v] 75 (0, 0)) := by
    rw [hgrow.block b hlt (fun e => hne e.symm)]
    exact hbk
  have d0 : w2.cell? ⟨b, 0, none⟩ = some (.pointer (some ⟨b, 0, none⟩)) := by rw [Lib.cell_of_heap hb2]; rfl
  have d1 : w2.cell? ⟨b, 1, none⟩ = some v := by rw [Lib.cell_of_heap hb2]; rfl
  have f1 : w2.frozen? ⟨b, 1, none⟩ = false := Lib.frozen_of_heap hb2 1
  obtain ⟨ao, n', cap, rfl⟩ : ∃ ao n' cap, v' = .slice ao n' cap := by
    rcases hown'.2 with ⟨hv, _⟩ | ⟨g, cap, cur, hv, _⟩
    · exact ⟨_, _, _, hv⟩
    · exact ⟨_, _, _, hv⟩
  go_wp2
  go_ret2
  refine ⟨rfl, ?_, ?_⟩
  · refine .inr ?_
    rw [byteCells_app]
    exact Lib.BuilderAt.put (T := 75) (e := 5) hB hb2 (bs' := Lib.byteCells l ++ Lib.byteCells news) (by simpa [hnl, hll] using hown') (by decide)
  · exact (hb1.grown hgrow (by have := hb1.size; omega) (fun k hk => (hown.lt k hk).1)).setCell (p := ⟨b, 1, none⟩) hB _

theorem string_b (B b : Nat) (l : List UInt8) (w : World) (h : Bld B b l w) (hBw : B ≤ w.heap.size) :
    Calls Tryz.prog 65 #[.pointer (some ⟨b, 0, none⟩)] w fun e w' => e = .returned (.string ⟨l.toArray⟩) ∧ Below B w w' := Tryz.Builder_String_any B b l w h hBw

theorem bld_new (w : World) : Bld w.heap.size w.heap.size [] (w.alloc (.cells #[.pointer none, .slice none 0 0] 75)) := by
  refine .inl ⟨Nat.le_refl _, .slice none 0 0, heap_alloc_new w _, ?_, by simp [Value.ownBlock]⟩
  exact ⟨rfl, .inl ⟨rfl, rfl⟩⟩

theorem bld_al {B b : Nat} {l : List UInt8} {w : World} (h : Bld B b l w) (o : Obj) : Bld B b l (w.alloc o) := by
  rcases h with ⟨hB, v, hb, hown, hne⟩ | ⟨hB, v, hb, hown, hne⟩
  · refine .inl ⟨hB, v, ?_, hown.alloc _, hne⟩
    rw [Lib.alloc_old w _ b (by rcases Nat.lt_or_ge b w.heap.size with h' | h'; exact h'; simp [Array.getElem?_eq_none h'] at hb)]; exact hb
  · refine .inr ⟨hB, v, ?_, hown.alloc _, hne⟩
    rw [Lib.alloc_old w _ b (by rcases Nat.lt_or_ge b w.heap.size with h' | h'; exact h'; simp [Array.getElem?_eq_none h'] at hb)]; exact hb
theorem bld_drew {B b : Nat} {l : List UInt8} {w : World} (h : Bld B b l w) : Bld B b l w.drew := h

theorem Bld.lt {B b : Nat} {l : List UInt8} {w : World} (h : Bld B b l w) : b < w.heap.size := by
  rcases h with h | h
  · exact h.lt
  · exact h.lt

theorem Bld.below {B b : Nat} {l : List UInt8} {w : World} (h : Bld B b l w) : B ≤ b := by
  rcases h with h | h <;> exact h.1

end Go.Proofs.YtjnkkjeneomckaaGreatDoor

namespace Go.Proofs.YtjnkkjeneomckaaGreatDoor
set_option linter.unusedVariables false
set_option linter.unusedSimpArgs false
open Go.RowKit

def hexL : List UInt8 := [48, 49, 50, 51, 52, 53, 54, 55, 56, 57, 97, 98, 99, 100, 101, 102]
def hexD (n : Nat) : UInt8 := hexL.getD n 0
def oddB (c : UInt8) : Bool := decide (c.toNat < 32) || decide (126 < c.toNat) || c == 92
def escL (c : UInt8) : List UInt8 :=
  if c = 39 then [39, 39] else if oddB c then [92, 120, hexD (c.toNat / 16), hexD (c.toNat % 16)] else [c]
def quotedL (s : List UInt8) : List UInt8 := 39 :: (s.flatMap escL ++ [39])

theorem escL_len (c : UInt8) : (escL c).length ≤ 4 := by
  unfold escL; split <;> (try split) <;> simp
theorem escs_len (s : List UInt8) : (s.flatMap escL).length ≤ 4 * s.length := by
  induction s with
  | nil => simp
  | cons c s ih => simp only [List.flatMap_cons, List.length_append, List.length_cons]; have := escL_len c; omega

theorem take_snoc' (s : ByteArray) (k : Nat) (h : k < s.size) : s.data.toList.take (k + 1) = s.data.toList.take k ++ [s[k]] := by
  rw [List.take_succ_eq_append_getElem (by simpa using h)]; rfl

/-- what the builder holds behind k bytes -/
def partQ (s : ByteArray) (k : Nat) : List UInt8 := 39 :: (s.data.toList.take k).flatMap escL
theorem partQ_len (s : ByteArray) (k : Nat) (h : k ≤ s.size) : (partQ s k).length ≤ 1 + 4 * k := by
  have := escs_len (s.data.toList.take k)
  have h2 : (s.data.toList.take k).length ≤ k := List.length_take_le _ _
  simp only [partQ, List.length_cons]; omega
theorem partQ_succ (s : ByteArray) (k : Nat) (h : k < s.size) : partQ s (k + 1) = partQ s k ++ escL s[k] := by
  unfold partQ
  rw [take_snoc' s k h]; simp

def hexBA : ByteArray := ⟨#[48, 49, 50, 51, 52, 53, 54, 55, 56, 57, 97, 98, 99, 100, 101, 102]⟩
theorem hexBA_get (n : Nat) (h : n < 16) : hexBA.data[n]? = some (hexD n) := by
  have : ∀ n : Fin 16, hexBA.data[n.1]? = some (hexD n.1) := by decide
  exact this ⟨n, h⟩
theorem hexBA_size : hexBA.size = 16 := rfl
theorem idx_hex (n : Nat) (h : n < 16) (m : Int) (hm : m = (n : Int)) (w : World) : (Instr.index 9 (.string ⟨#[48, 49, 50, 51, 52, 53, 54, 55, 56, 57, 97, 98, 99, 100, 101, 102]⟩) (.int .u8 m)).run Tryz.prog w = .ok (.int .u8 (hexD n).toNat) w := by
  have h1 : (⟨#[48, 49, 50, 51, 52, 53, 54, 55, 56, 57, 97, 98, 99, 100, 101, 102]⟩ : ByteArray) = hexBA := rfl
  subst hm
  rw [h1]
  have h2 := hexBA_get n h
  have hz := hexBA_size
  have hlt : n < hexBA.size := by omega
  have hg : hexBA[n] = hexD n := by
    have : hexBA.data[n]? = some hexBA[n] := by rw [Array.getElem?_eq_getElem]; rfl
    rw [this] at h2; exact Option.some.inj h2
  have hlt' : ¬ 16 ≤ n := by omega
  go_simp
  intro hh; exfalso; omega
theorem and15 (c : UInt8) : bits .and .u8 (c.toNat : Int) 15 = (c.toNat : Int) % 16 := by
  have : ∀ c : Fin 256, bits .and .u8 (c.1 : Int) 15 = (c.1 : Int) % 16 := by decide +kernel
  exact this c.toFin

theorem cells_new (w : World) (cs : List UInt8) (T : TypeId) (j : Nat) (u : Value) (h : (Lib.byteCells cs)[j]? = some u) :
    (w.alloc (.cells (Lib.byteCells cs).toArray T)).cell? ((⟨w.heap.size, 0, none⟩ : Addr).add j) = some u := by
  have := Lib.cell_of_heap (heap_alloc_new w (.cells (Lib.byteCells cs).toArray T)) j
  have ha : ((⟨w.heap.size, 0, none⟩ : Addr).add j) = ⟨w.heap.size, j, none⟩ := by
    unfold Addr.add; split
    · subst_vars; rfl
    · simp
  rw [ha, this]; simp only [List.getElem?_toArray, h]

theorem write4_c (B b : Nat) (l : List UInt8) (c1 c2 : UInt8) (w : World) (h : Bld B b l w) (hlen : l.length + 4 ≤ 140737488355328) (hBw : B ≤ w.heap.size) :
    Calls Tryz.prog 64 #[.pointer (some ⟨b, 0, none⟩), .slice (some ⟨w.heap.size, 0, none⟩) 4 4] (w.alloc (.cells #[.int .u8 92, .int .u8 120, .int .u8 c1.toNat, .int .u8 c2.toNat] 5)).drew fun e w' => e = .returned (.tuple #[.int .i64 4, .nilIface]) ∧ Bld B b (l ++ [92, 120, c1, c2]) w' ∧ Below B w w' := by
  have hlt := h.lt
  refine (write_c B b l ⟨w.heap.size, 0, none⟩ 4 4 [92, 120, c1, c2] _ (bld_drew (bld_al h _)) hlen (by simp; omega) rfl (fun j u hj => cells_new w [92, 120, c1, c2] _ j u hj) (by simp; omega)).mono ?_
  rintro e w' ⟨rfl, h1, h2⟩
  exact ⟨rfl, h1, (((Below.refl B w).alloc hBw _).drew).trans h2⟩

set_option maxRecDepth 100000 in
set_option maxHeartbeats 2000000 in
theorem quoted_c (s : ByteArray) (w : World) (hs : s.size ≤ 4096) :
    Calls Tryz.prog 34 #[.string s] w fun e w' => e = .returned (.string ⟨(quotedL s.data.toList).toArray⟩) ∧ Below w.heap.size w w' := by
  have hnew := bld_new w
  go_enter Tryz.func34, Tryz.ntmps34
  go_wp2_with fail
  refine (writeByte_c w.heap.size w.heap.size [] 39 _ hnew (by simp) (by simp)).mono ?_
  rintro e w1 ⟨rfl, h1, hb1⟩
  have hb0 : Below w.heap.size w w1 := (below_box w _).trans hb1
  have hz : w.heap.size < w1.heap.size := by have := hb1.size; simp at this; omega
  clear hnew hb1
  go_wp2_with fail
  go_loopw [9] (fun i wr => ∃ k : Nat, k ≤ s.size ∧ i = .int .i64 k ∧ Bld w.heap.size w.heap.size (partQ s k) wr ∧ Below w.heap.size w wr ∧ w.heap.size < wr.heap.size) (fun i _ => s.size - (intOf i).toNat)
  case atStart => exact ⟨0, Nat.zero_le _, rfl, h1, hb0, hz⟩
  case round =>
    obtain ⟨k, hk, rfl, hB, hBel, hzr⟩ := hrel
    clear h1 hb0 hz
    have hlen := partQ_len s k hk
    by_cases hlt : k < s.size
    · have hsn := Lib.hid (partQ_succ s k hlt)
      have hx1 := fun w => idx_hex (s[k].toNat / 16) (by have := s[k].toNat_lt; omega) ((s[k].toNat : Int) / 16) (by simp) w
      have hx2 := fun w => idx_hex (s[k].toNat % 16) (by omega) ((s[k].toNat : Int) % 16) (by simp) w
      have ha := and15 s[k]
      have hcl : ((s[k].toNat : Int) == 39) = decide (s[k] = 39) := by
        rw [Bool.eq_iff_iff]; simp only [beq_iff_eq, decide_eq_true_eq, ← UInt8.toNat_inj]
        show ((s[k].toNat : Int) = 39) ↔ s[k].toNat = 39
        omega
      have hcb : ((s[k].toNat : Int) == 92) = (s[k] == 92) := by
        rw [Bool.eq_iff_iff]; simp only [beq_iff_eq, ← UInt8.toNat_inj]
        show ((s[k].toNat : Int) = 92) ↔ s[k].toNat = 92
        omega
      have hu := s[k].toNat_lt
      have hi1 : IntKind.i64.wrap ((k : Int) + 1) = (k : Int) + 1 := IntWalk.i64_in _ (by omega)
      by_cases h39 : s[k] = 39
      · have hd : ((s[k].toNat : Int) == 39) = true := by rw [hcl]; simp [h39]
        have he : escL s[k] = [39, 39] := by unfold escL; rw [if_pos h39]
        go_wp2_with (first | (go_at_call 63; refine (writeString_c w.heap.size w.heap.size _ ⟨#[39, 39]⟩ _ hB (by show _ + 2 ≤ _; omega) (by omega)).mono ?_; rintro e w' ⟨rfl, hB2, hb2⟩))
        go_roundw
        case rel => exact ⟨k + 1, by omega, by go_num, by rw [hsn.out, he]; exact hB2, hBel.trans hb2, by have := hb2.size; omega⟩
        case measure => simp [intOf]; omega
      · have hd : ((s[k].toNat : Int) == 39) = false := by rw [hcl]; simp [h39]
        by_cases hodd : oddB s[k] = true
        · have he : escL s[k] = [92, 120, hexD (s[k].toNat / 16), hexD (s[k].toNat % 16)] := by unfold escL; rw [if_neg h39, if_pos hodd]
          have key : (decide ((s[k].toNat : Int) < 32) = true) ∨ (decide ((s[k].toNat : Int) < 32) = false ∧ decide (126 < (s[k].toNat : Int)) = true) ∨ (decide ((s[k].toNat : Int) < 32) = false ∧ decide (126 < (s[k].toNat : Int)) = false ∧ ((s[k].toNat : Int) == 92) = true) := by
            simp only [oddB, Bool.or_eq_true, decide_eq_true_eq] at hodd
            rw [hcb]
            simp only [decide_eq_true_eq, decide_eq_false_iff_not]
            rcases hodd with (h | h) | h
            · left; omega
            · right; left; omega
            · by_cases h1 : s[k].toNat < 32
              · left; omega
              · by_cases h2 : 126 < s[k].toNat
                · right; left; omega
                · right; right; exact ⟨by omega, by omega, h⟩
          clear hodd hcb hcl
          rcases key with h1 | ⟨h1, h2⟩ | ⟨h1, h2, h3⟩ <;> go_wp2_with fail
          all_goals (go_still_tail 6, (by kernel_rfl); change wpList _ _ _ _ _ wr.drew)
          all_goals go_wp2_with (first | (go_at_call 64; (refine (write4_c w.heap.size w.heap.size (partQ s k) (hexD (s[k].toNat / 16)) (hexD (s[k].toNat % 16)) wr hB (by omega) (by omega)).mono ?_); rintro e w' ⟨rfl, hB2, hb2⟩))
          all_goals (go_roundw; (exact ⟨k + 1, by omega, by go_num, (by rw [hsn.out, he]; exact hB2), hBel.trans hb2, (by have := hb2.size; omega)⟩); (simp [intOf]; omega))
        · have he : escL s[k] = [s[k]] := by unfold escL; rw [if_neg h39, if_neg hodd]
          have key : (decide ((s[k].toNat : Int) < 32) = false ∧ decide (126 < (s[k].toNat : Int)) = false ∧ ((s[k].toNat : Int) == 92) = false) := by
            simp only [oddB, Bool.or_eq_true, decide_eq_true_eq, not_or] at hodd
            rw [hcb]
            refine ⟨decide_eq_false (by omega), decide_eq_false (by omega), by simpa using hodd.2⟩
          obtain ⟨h1, h2, h3⟩ := key
          clear hodd hcb hcl
          go_wp2_with (first | (go_at_call 62; refine (writeByte_c w.heap.size w.heap.size _ s[k] _ hB (by omega) (by omega)).mono ?_; rintro e w' ⟨rfl, hB2, hb2⟩))
          go_roundw
          case rel => exact ⟨k + 1, by omega, by go_num, by rw [hsn.out, he]; exact hB2, hBel.trans hb2, by have := hb2.size; omega⟩
          case measure => simp [intOf]; omega
    · have hke : k = s.size := by omega
      subst hke
      go_wp2_with (first | (go_at_call 62; refine (writeByte_c w.heap.size w.heap.size _ 39 _ hB (by omega) (by omega)).mono ?_; rintro e w' ⟨rfl, hB2, hb2⟩) | (go_at_call 65; refine (string_b w.heap.size w.heap.size _ _ hB2 (by have := hb2.size; omega)).mono ?_; rintro e w'' ⟨rfl, hb3⟩))
      refine bodyPost_ret (v := .string ⟨(quotedL s.data.toList).toArray⟩) ?_ rfl ⟨rfl, hBel.trans (hb2.trans hb3)⟩
      have hq : partQ s s.size ++ [39] = quotedL s.data.toList := by
        have : s.data.toList.take s.size = s.data.toList := List.take_of_length_le (by simp)
        simp only [partQ, quotedL, this, List.cons_append]
      simp [results, Tryz.results34, go_sem, hq]

end Go.Proofs.YtjnkkjeneomckaaGreatDoor

namespace Go.Proofs.YtjnkkjeneomckaaGreatDoor
set_option linter.unusedVariables false
set_option linter.unusedSimpArgs false
open Go.RowKit

set_option maxRecDepth 100000 in
set_option maxHeartbeats 2000000 in
theorem show_text_c (t : ByteArray) (w : World) (ht : t.size ≤ 4096) (hs : soundV 4 0 0 t = true) : Calls Tryz.prog 11 #[.agg #[.int .i64 4, .int .i64 0, .int .u64 0, .string t]] w fun e w' => e = .returned (.string ⟨(quotedL t.data.toList).toArray⟩) ∧ Below w.heap.size w w' := by
  go_enter Tryz.func11, Tryz.ntmps11
  go_wp2_with (first | (go_at_call 13; refine (sound_c _ _ _ _ _ ⟨by decide, by decide⟩).mono ?_; rintro e w' ⟨rfl, hb⟩; (try (replace hb := below_undrew hb)); (try (replace hb := below_undrewN hb)); obtain ⟨hc, hf⟩ := bcell hb; (try (have hz0 : w.heap.size < w'.heap.size := (by have := hb.size; (try simp at this); omega))); (try (have hz1 : w.heap.size + 1 < w'.heap.size := (by have := hb.size; (try simp at this); omega))); (try (have hz2 : w.heap.size + 2 < w'.heap.size := (by have := hb.size; (try simp at this); omega))); (try (have hz3 : w.heap.size + 3 < w'.heap.size := (by have := hb.size; (try simp at this); omega)))) | (go_at_call 34; refine (quoted_c _ _ ht).mono ?_; rintro e w' ⟨rfl, hb⟩; (try (replace hb := below_undrew hb)); (try (replace hb := below_undrewN hb)); obtain ⟨hc, hf⟩ := bcell hb; (try (have hz0 : w.heap.size < w'.heap.size := (by have := hb.size; (try simp at this); omega))); (try (have hz1 : w.heap.size + 1 < w'.heap.size := (by have := hb.size; (try simp at this); omega))); (try (have hz2 : w.heap.size + 2 < w'.heap.size := (by have := hb.size; (try simp at this); omega))); (try (have hz3 : w.heap.size + 3 < w'.heap.size := (by have := hb.size; (try simp at this); omega)))))
  exact bodyPost_ret (v := .string ⟨(quotedL t.data.toList).toArray⟩) (by simp [results, Tryz.results11, go_sem, *]) rfl ⟨rfl, (by repeat (first | (with_reducible exact Below.refl _ _) | (with_reducible refine below_al ?_ _) | (with_reducible refine below_drewN ?_ _) | (with_reducible refine Below.drew ?_) | (with_reducible refine below_via (by assumption) ?_) | (with_reducible refine below_sc ?_ ?_ _; · (first | (simp; done) | (simp; omega) | omega))))⟩

theorem two23 : resV (twoS 10 2 2 0 ⟨#[]⟩ 2 3 0 ⟨#[]⟩) = (⟨2, 5, 0, ⟨#[]⟩⟩, 0) := by kernel_rfl
theorem two70 : (resV (twoS 13 2 7 0 ⟨#[]⟩ 2 0 0 ⟨#[]⟩)) = (⟨0, 0, 0, ⟨#[]⟩⟩, 10) := by kernel_rfl
theorem one4 : resV (oneS 3 0 2 4 0 ⟨#[]⟩) = (⟨2, -4, 0, ⟨#[]⟩⟩, 0) := by kernel_rfl
theorem sound5 : soundV 2 5 0 ⟨#[]⟩ = true := by kernel_rfl
theorem cmp54 : cmpV 2 5 0 ⟨#[]⟩ 2 (-4) 0 ⟨#[]⟩ = 1 := by kernel_rfl
theorem sound_t : soundV 4 0 0 ⟨#[97, 39, 98]⟩ = true := by kernel_rfl
theorem quoted_t : (⟨(quotedL (⟨#[97, 39, 98]⟩ : ByteArray).data.toList).toArray⟩ : ByteArray) = ⟨#[39, 97, 39, 39, 98, 39]⟩ := by kernel_rfl
theorem plain0 : plainI 9223372036854775808 = 0 := by kernel_rfl

theorem two_a (w : World) : Calls Tryz.prog 7 #[.int .i64 10, .agg #[.int .i64 2, .int .i64 2, .int .u64 0, .string ⟨#[]⟩], .agg #[.int .i64 2, .int .i64 3, .int .u64 0, .string ⟨#[]⟩]] w fun e w' => e = .returned (.tuple #[.agg #[.int .i64 2, .int .i64 5, .int .u64 0, .string ⟨#[]⟩], .int .i64 0]) ∧ Below w.heap.size w w' := by
  refine (twoD_c 10 2 2 0 ⟨#[]⟩ 2 3 0 ⟨#[]⟩ w ⟨by decide, by decide⟩ ⟨by decide, by decide⟩).mono ?_
  rintro e w' ⟨rfl, h⟩; rw [two23]; exact ⟨rfl, h⟩
theorem two_b (w : World) : Calls Tryz.prog 7 #[.int .i64 13, .agg #[.int .i64 2, .int .i64 7, .int .u64 0, .string ⟨#[]⟩], .agg #[.int .i64 2, .int .i64 0, .int .u64 0, .string ⟨#[]⟩]] w fun e w' => e = .returned (.tuple #[.agg #[.int .i64 0, .int .i64 0, .int .u64 0, .string ⟨#[]⟩], .int .i64 10]) ∧ Below w.heap.size w w' := by
  refine (twoD_c 13 2 7 0 ⟨#[]⟩ 2 0 0 ⟨#[]⟩ w ⟨by decide, by decide⟩ ⟨by decide, by decide⟩).mono ?_
  rintro e w' ⟨rfl, h⟩; rw [two70]; exact ⟨rfl, h⟩
theorem one_a (w : World) (ht : Tab w) : Calls Tryz.prog 5 #[.int .i64 3, .int .i64 0, .agg #[.int .i64 2, .int .i64 4, .int .u64 0, .string ⟨#[]⟩]] w fun e w' => e = .returned (.tuple #[.agg #[.int .i64 2, .int .i64 (-4), .int .u64 0, .string ⟨#[]⟩], .int .i64 0]) ∧ Below w.heap.size w w' := by
  refine (oneD_c 3 0 2 4 0 ⟨#[]⟩ w ⟨by decide, by decide⟩ ht).mono ?_
  rintro e w' ⟨rfl, h⟩; rw [one4]; exact ⟨rfl, h⟩
theorem text_a (w : World) : Calls Tryz.prog 10 #[.string ⟨#[97, 39, 98]⟩] w fun e w' => e = .returned (.tuple #[.agg #[.int .i64 4, .int .i64 0, .int .u64 0, .string ⟨#[97, 39, 98]⟩], .int .i64 0]) ∧ Below w.heap.size w w' := by
  refine (ofText_c ⟨#[97, 39, 98]⟩ w).mono ?_
  rintro e w' ⟨rfl, h⟩; exact ⟨rfl, h⟩

theorem show_a (w : World) : Calls Tryz.prog 11 #[.agg #[.int .i64 4, .int .i64 0, .int .u64 0, .string ⟨#[97, 39, 98]⟩]] w fun e w' => e = .returned (.string ⟨#[39, 97, 39, 39, 98, 39]⟩) ∧ Below w.heap.size w w' := by
  rw [← quoted_t]; exact show_text_c ⟨#[97, 39, 98]⟩ w (by decide) sound_t
theorem cmp_a (w : World) : Calls Tryz.prog 12 #[.agg #[.int .i64 2, .int .i64 5, .int .u64 0, .string ⟨#[]⟩], .agg #[.int .i64 2, .int .i64 (-4), .int .u64 0, .string ⟨#[]⟩]] w fun e w' => e = .returned (.int .i64 1) ∧ Below w.heap.size w w' := by
  refine (compare_c 2 5 0 ⟨#[]⟩ 2 (-4) 0 ⟨#[]⟩ w ⟨by decide, by decide⟩ ⟨by decide, by decide⟩).mono ?_
  rintro e w' ⟨rfl, h⟩; rw [cmp54]; exact ⟨rfl, h⟩
theorem sound_a (w : World) : Calls Tryz.prog 13 #[.agg #[.int .i64 2, .int .i64 5, .int .u64 0, .string ⟨#[]⟩]] w fun e w' => e = .returned (.bool true) ∧ Below w.heap.size w w' := by
  refine (sound_c 2 5 0 ⟨#[]⟩ w ⟨by decide, by decide⟩).mono ?_
  rintro e w' ⟨rfl, h⟩; rw [sound5]; exact ⟨rfl, h⟩
theorem ofFloat_a (w : World) : Calls Tryz.prog 14 #[.int .u64 9223372036854775808] w fun e w' => e = .returned (.agg #[.int .i64 3, .int .i64 0, .int .u64 0, .string ⟨#[]⟩]) ∧ Below w.heap.size w w' := by
  refine (ofFloat_c 9223372036854775808 w).mono ?_
  rintro e w' ⟨rfl, h⟩; rw [plain0]; exact ⟨rfl, h⟩
theorem ofBool_a (w : World) : Calls Tryz.prog 15 #[.bool true] w fun e w' => e = .returned (.agg #[.int .i64 1, .int .i64 1, .int .u64 0, .string ⟨#[]⟩]) ∧ Below w.heap.size w w' := ofBool_c true w
theorem eq_a : eqV 2 5 0 ⟨#[]⟩ 2 5 0 ⟨#[]⟩ = true := by kernel_rfl
theorem eq_b : eqV 2 (-4) 0 ⟨#[]⟩ 2 (-4) 0 ⟨#[]⟩ = true := by kernel_rfl
theorem eq_c : eqV 3 0 0 ⟨#[]⟩ 3 0 0 ⟨#[]⟩ = true := by kernel_rfl
theorem eq_d : eqV 1 1 0 ⟨#[]⟩ 1 1 0 ⟨#[]⟩ = true := by kernel_rfl

set_option maxRecDepth 100000 in
set_option maxHeartbeats 2000000 in
theorem awake_c (w : World) (ht : Tab w) : Calls Tryz.prog 4 #[] w fun e w' => e = .returned (.bool true) ∧ Below w.heap.size w w' := by
  have h1 := run_eqV
  have hq1 := eq_a
  have hq2 := eq_b
  have hq3 := eq_c
  have hq4 := eq_d
  go_enter Tryz.func4, Tryz.ntmps4
  go_wp2_with (first | (go_at_call 9; ((with_reducible refine (ofInt_c _ _).mono ?_); rintro e w' ⟨rfl, hb⟩; obtain ⟨hc, hf⟩ := bcell hb; (try (have hz_wa : wa.heap.size < w'.heap.size := (by have := hb.size; (try simp at this); omega))); (try (have hz_wb : wb.heap.size < w'.heap.size := (by have := hb.size; (try simp at this); omega))); (try (have hz_wc : wc.heap.size < w'.heap.size := (by have := hb.size; (try simp at this); omega))); (try (have hz_wd : wd.heap.size < w'.heap.size := (by have := hb.size; (try simp at this); omega))))) | (go_at_call 7; ((with_reducible refine (two_a _).mono ?_); rintro e wa ⟨rfl, hb⟩; obtain ⟨hc, hf⟩ := bcell hb; (try (have hz_wa : wa.heap.size < wa.heap.size := (by have := hb.size; (try simp at this); omega))); (try (have hz_wb : wb.heap.size < wa.heap.size := (by have := hb.size; (try simp at this); omega))); (try (have hz_wc : wc.heap.size < wa.heap.size := (by have := hb.size; (try simp at this); omega))); (try (have hz_wd : wd.heap.size < wa.heap.size := (by have := hb.size; (try simp at this); omega))))) | (go_at_call 7; ((with_reducible refine (two_b _).mono ?_); rintro e wb ⟨rfl, hb⟩; obtain ⟨hc, hf⟩ := bcell hb; (try (have hz_wa : wa.heap.size < wb.heap.size := (by have := hb.size; (try simp at this); omega))); (try (have hz_wb : wb.heap.size < wb.heap.size := (by have := hb.size; (try simp at this); omega))); (try (have hz_wc : wc.heap.size < wb.heap.size := (by have := hb.size; (try simp at this); omega))); (try (have hz_wd : wd.heap.size < wb.heap.size := (by have := hb.size; (try simp at this); omega))))) | (go_at_call 5; ((with_reducible refine (one_a _ (ht.below (by repeat (first | (with_reducible exact Below.refl _ _) | (with_reducible refine below_al ?_ _) | (with_reducible refine below_drewN ?_ _) | (with_reducible refine Below.drew ?_) | (with_reducible refine below_via (by assumption) ?_) | (with_reducible refine below_sc ?_ ?_ _; · (first | (simp; done) | (simp; omega) | omega)))))).mono ?_); rintro e wc ⟨rfl, hb⟩; obtain ⟨hc, hf⟩ := bcell hb; (try (have hz_wa : wa.heap.size < wc.heap.size := (by have := hb.size; (try simp at this); omega))); (try (have hz_wb : wb.heap.size < wc.heap.size := (by have := hb.size; (try simp at this); omega))); (try (have hz_wc : wc.heap.size < wc.heap.size := (by have := hb.size; (try simp at this); omega))); (try (have hz_wd : wd.heap.size < wc.heap.size := (by have := hb.size; (try simp at this); omega))))) | (go_at_call 10; ((with_reducible refine (text_a _).mono ?_); rintro e wd ⟨rfl, hb⟩; obtain ⟨hc, hf⟩ := bcell hb; (try (have hz_wa : wa.heap.size < wd.heap.size := (by have := hb.size; (try simp at this); omega))); (try (have hz_wb : wb.heap.size < wd.heap.size := (by have := hb.size; (try simp at this); omega))); (try (have hz_wc : wc.heap.size < wd.heap.size := (by have := hb.size; (try simp at this); omega))); (try (have hz_wd : wd.heap.size < wd.heap.size := (by have := hb.size; (try simp at this); omega))))) | (go_at_call 11; ((with_reducible refine (show_a _).mono ?_); rintro e w' ⟨rfl, hb⟩; obtain ⟨hc, hf⟩ := bcell hb; (try (have hz_wa : wa.heap.size < w'.heap.size := (by have := hb.size; (try simp at this); omega))); (try (have hz_wb : wb.heap.size < w'.heap.size := (by have := hb.size; (try simp at this); omega))); (try (have hz_wc : wc.heap.size < w'.heap.size := (by have := hb.size; (try simp at this); omega))); (try (have hz_wd : wd.heap.size < w'.heap.size := (by have := hb.size; (try simp at this); omega))))) | (go_at_call 12; ((with_reducible refine (cmp_a _).mono ?_); rintro e w' ⟨rfl, hb⟩; obtain ⟨hc, hf⟩ := bcell hb; (try (have hz_wa : wa.heap.size < w'.heap.size := (by have := hb.size; (try simp at this); omega))); (try (have hz_wb : wb.heap.size < w'.heap.size := (by have := hb.size; (try simp at this); omega))); (try (have hz_wc : wc.heap.size < w'.heap.size := (by have := hb.size; (try simp at this); omega))); (try (have hz_wd : wd.heap.size < w'.heap.size := (by have := hb.size; (try simp at this); omega))))) | (go_at_call 13; ((with_reducible refine (sound_a _).mono ?_); rintro e w' ⟨rfl, hb⟩; obtain ⟨hc, hf⟩ := bcell hb; (try (have hz_wa : wa.heap.size < w'.heap.size := (by have := hb.size; (try simp at this); omega))); (try (have hz_wb : wb.heap.size < w'.heap.size := (by have := hb.size; (try simp at this); omega))); (try (have hz_wc : wc.heap.size < w'.heap.size := (by have := hb.size; (try simp at this); omega))); (try (have hz_wd : wd.heap.size < w'.heap.size := (by have := hb.size; (try simp at this); omega))))) | (go_at_call 14; ((with_reducible refine (ofFloat_a _).mono ?_); rintro e w' ⟨rfl, hb⟩; obtain ⟨hc, hf⟩ := bcell hb; (try (have hz_wa : wa.heap.size < w'.heap.size := (by have := hb.size; (try simp at this); omega))); (try (have hz_wb : wb.heap.size < w'.heap.size := (by have := hb.size; (try simp at this); omega))); (try (have hz_wc : wc.heap.size < w'.heap.size := (by have := hb.size; (try simp at this); omega))); (try (have hz_wd : wd.heap.size < w'.heap.size := (by have := hb.size; (try simp at this); omega))))) | (go_at_call 15; ((with_reducible refine (ofBool_a _).mono ?_); rintro e w' ⟨rfl, hb⟩; obtain ⟨hc, hf⟩ := bcell hb; (try (have hz_wa : wa.heap.size < w'.heap.size := (by have := hb.size; (try simp at this); omega))); (try (have hz_wb : wb.heap.size < w'.heap.size := (by have := hb.size; (try simp at this); omega))); (try (have hz_wc : wc.heap.size < w'.heap.size := (by have := hb.size; (try simp at this); omega))); (try (have hz_wd : wd.heap.size < w'.heap.size := (by have := hb.size; (try simp at this); omega))))))
  go_ret
  exact ⟨rfl, (by repeat (first | (with_reducible exact Below.refl _ _) | (with_reducible refine below_al ?_ _) | (with_reducible refine below_drewN ?_ _) | (with_reducible refine Below.drew ?_) | (with_reducible refine below_via (by assumption) ?_) | (with_reducible refine below_sc ?_ ?_ _; · (first | (simp; done) | (simp; omega) | omega))))⟩

end Go.Proofs.YtjnkkjeneomckaaGreatDoor
