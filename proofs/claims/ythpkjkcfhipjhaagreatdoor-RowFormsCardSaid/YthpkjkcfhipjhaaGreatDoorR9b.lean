/- The builder's writers: which blocks they keep. -/
import Derived.Test.YthpkjkcfhipjhaaGreatDoorME
namespace Go.Proofs.YthpkjkcfhipjhaaGreatDoor
set_option linter.unusedVariables false
set_option linter.unusedSimpArgs false
open Go.RowKit Go.Proofs.YthpkjkcfhipjhaaGreatDoorW.PrintWords Go.Proofs.YthpkjkcfhipjhaaGreatDoorW.PrintLast

/-- all blocks but g that hold no bytes are as they were -/
def KeepT (g : Nat) (w w' : World) : Prop := ∀ (k : Nat) cs T m, k ≠ g → T ≠ 5 → w.heap[k]? = some (.cells cs T m) → w'.heap[k]? = some (.cells cs T m)
theorem own_type {w : World} {B e size n : Nat} {v : Value} {xs : List Value} (h : w.ownsRow B e size v n xs) {k : Nat} {cs : Array Value} {T : Nat} {m : Nat × Nat} (hh : w.heap[k]? = some (.cells cs T m)) (hT : T ≠ e) : some k ≠ v.ownBlock := by
  intro he
  rcases h.2 with ⟨hv, _⟩ | ⟨g, cap, cur, hv, _, hg, _⟩
  · rw [hv] at he; simp [Value.ownBlock] at he
  · rw [hv] at he
    have : k = g := by simpa [Value.ownBlock] using he
    subst this
    rw [hh] at hg
    injection hg with hg
    injection hg with _ h2
    exact hT h2
theorem KeepT.trans {g : Nat} {w w1 w2 : World} (h : KeepT g w w1) (k : KeepT g w1 w2) : KeepT g w w2 := fun i cs T m hi hT hh => k i cs T m hi hT (h i cs T m hi hT hh)
theorem KeepT.of {g : Nat} {w w' : World} (h : Below w.heap.size w w') : KeepT g w w' := fun k cs T m _ _ hh => by
  have hlt : k < w.heap.size := by
    rcases Nat.lt_or_ge k w.heap.size with h' | h'
    · exact h'
    · simp [Array.getElem?_eq_none h'] at hh
  rw [h.block k hlt]; exact hh
theorem heap_lt {w : World} {k : Nat} {o : Obj} (hh : w.heap[k]? = some o) : k < w.heap.size := by
  rcases Nat.lt_or_ge k w.heap.size with h' | h'
  · exact h'
  · simp [Array.getElem?_eq_none h'] at hh

set_option maxHeartbeats 2000000 in
set_option maxRecDepth 100000 in
theorem writeByte_f (B b : Nat) (l : List UInt8) (c : UInt8) (w : World) (h : Bld B b l w) (hlen : l.length + 1 ≤ 140737488355328) (hBw : B ≤ w.heap.size) :
    Calls Tryz.prog 57 #[.pointer (some ⟨b, 0, none⟩), .int .u8 c.toNat] w fun e w' => e = .returned .nilIface ∧ Bld B b (l ++ [c]) w' ∧ Below B w w' ∧ KeepT b w w' := by
  obtain ⟨i0, hi, hz0, hz1, hz2⟩ := info_parts infoByte
  have hll : (Lib.byteCells l).length = l.length := by simp [Lib.byteCells]
  go_enter Tryz.func57, Tryz.ntmps57
  go_wp2_with (go_at_call 84; refine (copyCheck_b B b _ _ h).mono ?_)
  rintro e w1 ⟨rfl, h1, hb1, hfar⟩
  obtain ⟨hB, v, hbk, hown, hne⟩ := h1
  have c0 : w1.cell? ⟨b, 0, none⟩ = some (.pointer (some ⟨b, 0, none⟩)) := by rw [Lib.cell_of_heap hbk]; rfl
  have c1 : w1.cell? ⟨b, 1, none⟩ = some v := by rw [Lib.cell_of_heap hbk]; rfl
  go_wp2_with (at_builtin; refine wpList_append_own _ rfl _ _ 78 rfl B 5 i0 (.int .u8 0) 1 1 Tryz.underlying78 hi hz0 hz1 hz2 rfl (by decide) _ _ _ rfl (hown.alloc _) ⟨w1.heap.size, 0, none⟩ 1 1 [.int .u8 c.toNat] rfl rfl ?c1 ?c2 ?c3 ?c4 ?c5 ?_)
  case c1 =>
    intro j u hj
    match j, hj with
    | 0, hj => simp at hj; subst hj; simp [Addr.add]
  case c2 => intro u hu; simp at hu; subst hu; rfl
  case c3 => unfold maxLen; omega
  case c4 => omega
  case c5 => have := hb1.size; simp; omega
  intro v' w2 hown' hgrow _
  have hlt : b < w1.heap.size := by
    rcases Nat.lt_or_ge b w1.heap.size with h' | h'
    · exact h'
    · simp [Array.getElem?_eq_none h'] at hbk
  have hb2 : w2.heap[b]? = some (.cells #[.pointer (some ⟨b, 0, none⟩), v] 80 (0, 0)) := by
    rw [hgrow.block b (by simp; omega) (fun e => hne e.symm), Lib.alloc_old w1 _ b hlt]
    exact hbk
  have d0 : w2.cell? ⟨b, 0, none⟩ = some (.pointer (some ⟨b, 0, none⟩)) := by rw [Lib.cell_of_heap hb2]; rfl
  have d1 : w2.cell? ⟨b, 1, none⟩ = some v := by rw [Lib.cell_of_heap hb2]; rfl
  have f1 : w2.frozen? ⟨b, 1, none⟩ = false := Lib.frozen_of_heap hb2 1
  obtain ⟨g, cap, rfl⟩ : ∃ g cap, v' = .slice (some ⟨g, 0, none⟩) (l.length + 1) cap := by
    rcases hown'.2 with ⟨_, h0⟩ | ⟨g, cap, cur, hv, _⟩
    · omega
    · exact ⟨g, cap, hv⟩
  go_wp2
  go_ret
  refine ⟨rfl, ?_, ?_, ?_⟩
  · refine .inr ?_
    rw [byteCells_app]
    exact Lib.BuilderAt.put (T := 80) (e := 5) hB hb2 (bs' := Lib.byteCells l ++ [.int .u8 c.toNat]) (by simpa [hll] using hown') (by decide)
  · exact ((hb1.alloc (by have := hb1.size; omega) _).grown hgrow (by have := hb1.size; simp; omega) (fun k hk => (hown.lt k hk).1)).setCell (p := ⟨b, 1, none⟩) hB _
  · intro k cs T m hk hT hh
    have e1 : w1.heap[k]? = some (.cells cs T m) := (hfar k hk).trans hh
    have hne2 := own_type hown e1 hT
    have hkl := heap_lt e1
    have e2 : w2.heap[k]? = some (.cells cs T m) := (hgrow.block k (by simp; omega) hne2).trans (by rw [Lib.alloc_old w1 _ k hkl]; exact e1)
    rw [Below.heap_setCell w2 ⟨b, 1, none⟩ _ k hk]; exact e2

set_option maxHeartbeats 2000000 in
set_option maxRecDepth 100000 in
theorem writeString_f (B b : Nat) (l : List UInt8) (s : ByteArray) (w : World) (h : Bld B b l w) (hlen : l.length + s.size ≤ 140737488355328) (hBw : B ≤ w.heap.size) :
    Calls Tryz.prog 61 #[.pointer (some ⟨b, 0, none⟩), .string s] w fun e w' => e = .returned (.tuple #[.int .i64 s.size, .nilIface]) ∧ Bld B b (l ++ s.data.toList) w' ∧ Below B w w' ∧ KeepT b w w' := by
  obtain ⟨i0, hi, hz0, hz1, hz2⟩ := info_parts infoByte
  have hll : (Lib.byteCells l).length = l.length := by simp [Lib.byteCells]
  go_enter Tryz.func61, Tryz.ntmps61
  go_wp2_with (go_at_call 84; refine (copyCheck_b B b _ _ h).mono ?_)
  rintro e w1 ⟨rfl, h1, hb1, hfar⟩
  obtain ⟨hB, v, hbk, hown, hne⟩ := h1
  have c0 : w1.cell? ⟨b, 0, none⟩ = some (.pointer (some ⟨b, 0, none⟩)) := by rw [Lib.cell_of_heap hbk]; rfl
  have c1 : w1.cell? ⟨b, 1, none⟩ = some v := by rw [Lib.cell_of_heap hbk]; rfl
  go_wp2_with (at_builtin; refine Lib.wpList_append_own_string _ rfl _ _ 78 9 rfl B 5 i0 Tryz.underlying78 Tryz.underlying9 hi hz0 hz1 hz2 _ _ _ rfl hown s rfl ?c3 ?c4 ?c5 ?_)
  case c3 => unfold maxLen; omega
  case c4 => omega
  case c5 => have := hb1.size; omega
  intro v' w2 hown' hgrow _
  have hlt : b < w1.heap.size := by
    rcases Nat.lt_or_ge b w1.heap.size with h' | h'
    · exact h'
    · simp [Array.getElem?_eq_none h'] at hbk
  have hb2 : w2.heap[b]? = some (.cells #[.pointer (some ⟨b, 0, none⟩), v] 80 (0, 0)) := by
    rw [hgrow.block b hlt (fun e => hne e.symm)]
    exact hbk
  have d0 : w2.cell? ⟨b, 0, none⟩ = some (.pointer (some ⟨b, 0, none⟩)) := by rw [Lib.cell_of_heap hb2]; rfl
  have d1 : w2.cell? ⟨b, 1, none⟩ = some v := by rw [Lib.cell_of_heap hb2]; rfl
  have f1 : w2.frozen? ⟨b, 1, none⟩ = false := Lib.frozen_of_heap hb2 1
  obtain ⟨ao, n', cap, rfl⟩ : ∃ ao n' cap, v' = .slice ao n' cap := by
    rcases hown'.2 with ⟨hv, _⟩ | ⟨g, cap, cur, hv, _⟩
    · exact ⟨_, _, _, hv⟩
    · exact ⟨_, _, _, hv⟩
  go_wp2
  go_ret2
  refine ⟨rfl, ?_, ?_, ?_⟩
  · refine .inr ?_
    rw [byteCells_app]
    exact Lib.BuilderAt.put (T := 80) (e := 5) hB hb2 (bs' := Lib.byteCells l ++ Lib.strCells s) (by simpa [Lib.strCells_length, hll] using hown') (by decide)
  · exact (hb1.grown hgrow (by have := hb1.size; omega) (fun k hk => (hown.lt k hk).1)).setCell (p := ⟨b, 1, none⟩) hB _
  · intro k cs T m hk hT hh
    have e1 : w1.heap[k]? = some (.cells cs T m) := (hfar k hk).trans hh
    have hne2 := own_type hown e1 hT
    have hkl := heap_lt e1
    have e2 : w2.heap[k]? = some (.cells cs T m) := (hgrow.block k hkl hne2).trans e1
    rw [Below.heap_setCell w2 ⟨b, 1, none⟩ _ k hk]; exact e2

set_option maxHeartbeats 2000000 in
set_option maxRecDepth 100000 in
theorem write_f (B b : Nat) (l : List UInt8) (ad : Addr) (m c : Nat) (news : List UInt8) (w : World) (h : Bld B b l w) (hlen : l.length + m ≤ 140737488355328) (hBw : B ≤ w.heap.size)
    (hl : news.length = m) (hnews : ∀ j u, (Lib.byteCells news)[j]? = some u → w.cell? (ad.add j) = some u) (hadb : ad.block ≠ b) :
    Calls Tryz.prog 58 #[.pointer (some ⟨b, 0, none⟩), .slice (some ad) m c] w fun e w' => e = .returned (.tuple #[.int .i64 m, .nilIface]) ∧ Bld B b (l ++ news) w' ∧ Below B w w' ∧ KeepT b w w' := by
  obtain ⟨i0, hi, hz0, hz1, hz2⟩ := info_parts infoByte
  have hll : (Lib.byteCells l).length = l.length := by simp [Lib.byteCells]
  have hnl : (Lib.byteCells news).length = m := by simp [Lib.byteCells, hl]
  go_enter Tryz.func58, Tryz.ntmps58
  go_wp2_with (go_at_call 84; refine (copyCheck_b B b _ _ h).mono ?_)
  rintro e w1 ⟨rfl, h1, hb1, hfar⟩
  obtain ⟨hB, v, hbk, hown, hne⟩ := h1
  have c0 : w1.cell? ⟨b, 0, none⟩ = some (.pointer (some ⟨b, 0, none⟩)) := by rw [Lib.cell_of_heap hbk]; rfl
  have c1 : w1.cell? ⟨b, 1, none⟩ = some v := by rw [Lib.cell_of_heap hbk]; rfl
  have hnews1 : ∀ j u, (Lib.byteCells news)[j]? = some u → w1.cell? (ad.add j) = some u := fun j u hj => by
    rw [World.cell?_of_block (w := w) (hfar _ (by unfold Addr.add; split <;> exact hadb))]
    exact hnews j u hj
  go_wp2_with (at_builtin; refine wpList_append_own _ rfl _ _ 78 rfl B 5 i0 (.int .u8 0) 1 1 Tryz.underlying78 hi hz0 hz1 hz2 rfl (by decide) _ _ _ rfl hown ad m c (Lib.byteCells news) rfl (by omega) hnews1 ?c2 ?c3 ?c4 ?c5 ?_)
  case c2 => intro u hu; simp only [Lib.byteCells, List.mem_map] at hu; obtain ⟨x, _, rfl⟩ := hu; rfl
  case c3 => unfold maxLen; omega
  case c4 => omega
  case c5 => have := hb1.size; omega
  intro v' w2 hown' hgrow _
  have hlt : b < w1.heap.size := by
    rcases Nat.lt_or_ge b w1.heap.size with h' | h'
    · exact h'
    · simp [Array.getElem?_eq_none h'] at hbk
  have hb2 : w2.heap[b]? = some (.cells #[.pointer (some ⟨b, 0, none⟩), v] 80 (0, 0)) := by
    rw [hgrow.block b hlt (fun e => hne e.symm)]
    exact hbk
  have d0 : w2.cell? ⟨b, 0, none⟩ = some (.pointer (some ⟨b, 0, none⟩)) := by rw [Lib.cell_of_heap hb2]; rfl
  have d1 : w2.cell? ⟨b, 1, none⟩ = some v := by rw [Lib.cell_of_heap hb2]; rfl
  have f1 : w2.frozen? ⟨b, 1, none⟩ = false := Lib.frozen_of_heap hb2 1
  obtain ⟨ao, n', cap, rfl⟩ : ∃ ao n' cap, v' = .slice ao n' cap := by
    rcases hown'.2 with ⟨hv, _⟩ | ⟨g, cap, cur, hv, _⟩
    · exact ⟨_, _, _, hv⟩
    · exact ⟨_, _, _, hv⟩
  go_wp2
  go_ret2
  refine ⟨rfl, ?_, ?_, ?_⟩
  · refine .inr ?_
    rw [byteCells_app]
    exact Lib.BuilderAt.put (T := 80) (e := 5) hB hb2 (bs' := Lib.byteCells l ++ Lib.byteCells news) (by simpa [hnl, hll] using hown') (by decide)
  · exact (hb1.grown hgrow (by have := hb1.size; omega) (fun k hk => (hown.lt k hk).1)).setCell (p := ⟨b, 1, none⟩) hB _
  · intro k cs T m hk hT hh
    have e1 : w1.heap[k]? = some (.cells cs T m) := (hfar k hk).trans hh
    have hne2 := own_type hown e1 hT
    have hkl := heap_lt e1
    have e2 : w2.heap[k]? = some (.cells cs T m) := (hgrow.block k hkl hne2).trans e1
    rw [Below.heap_setCell w2 ⟨b, 1, none⟩ _ k hk]; exact e2

end Go.Proofs.YthpkjkcfhipjhaaGreatDoor
