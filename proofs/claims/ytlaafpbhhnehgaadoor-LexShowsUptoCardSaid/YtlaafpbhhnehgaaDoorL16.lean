/- lex.Scan$1: what a scan leaves when it gives up. -/
import Derived.Test.YtlaafpbhhnehgaaDoorL15
import Derived.RegionTactic
namespace Go.Proofs.YtlaafpbhhnehgaaDoor
set_option linter.unusedVariables false
set_option linter.unusedSimpArgs false
open Go.RowKit

theorem frame_mode (c : Frame) (m : FrameMode) : ({ fn := c.fn, tmps := c.tmps, todo := c.todo, defers := c.defers, mode := m, kind := c.kind, roundOf := c.roundOf } : Frame) = { c with mode := m } := rfl
theorem frame_same (c : Frame) (m : FrameMode) (h : c.mode = m) : c = { c with mode := m } := by cases c; cases h; rfl
theorem ta_nil (w : World) : (Instr.typeAssert .nilIface 20 38 true).run Tryd.prog w = .ok (.tuple #[.agg #[.int .i64 0], .bool false]) w := by kernel_rfl
theorem ta_flt (c : Int) (w : World) : (Instr.typeAssert (.iface 38 (.agg #[.int .i64 c])) 20 38 true).run Tryd.prog w = .ok (.tuple #[.agg #[.int .i64 c], .bool true]) w := by kernel_rfl

set_option maxRecDepth 100000 in
/-- behind a return: nothing is recovered -/
theorem scan1_ret (b0 b1 b2 : Nat) (w : World) :
    CallsD Tryd.prog 19 #[.pointer (some ⟨b0, 0, none⟩), .pointer (some ⟨b1, 0, none⟩), .pointer (some ⟨b2, 0, none⟩)] .returning w fun e u' w' => u' = .returning ∧ e = .returned (.tuple #[]) ∧ Below w.heap.size w w' := by
  refine callsD_of_wpS Tryd.func19 rfl fun c₀ cs hu => ?_
  simp only [Tryd.ntmps19, List.size_toArray, List.length_cons, List.length_nil, Nat.reduceAdd, Nat.reduceSub, Array.replicate_succ, Array.replicate_zero, List.push_toArray, List.append_toArray, List.nil_append, List.cons_append]
  apply wpS_seq
  apply wpS_region
  simp [wpOpsS, go_sem, recoverD, hu, Exit.thenS, ta_nil]
  apply wpS_of_wp
  go_wp2_with fail
  exact ⟨rfl, .returning, congrArg (· :: cs) (frame_same c₀ _ hu), _, results_none rfl _ _ _, rfl, rfl, below_box _ _⟩

/-- what it leaves: no tokens, the place, the error -/
def Gave (B b0 b1 b2 : Nat) (c : Int) (w : World) (e : Ending) (u' : FrameMode) (w' : World) : Prop :=
  u' = .panicking [{ v := .iface 38 (.agg #[.int .i64 c]), recovered := true }] ∧ e = .returned (.tuple #[]) ∧ Below B w w' ∧
  w'.cell? ⟨b0, 0, none⟩ = some (.slice none 0 0) ∧ w'.cell? ⟨b1, 0, none⟩ = some (.int .i64 c) ∧ w'.cell? ⟨b2, 0, none⟩ = some (.int .i64 20)

set_option maxHeartbeats 2000000 in
set_option maxRecDepth 100000 in
theorem scan1_pan (B b0 b1 b2 : Nat) (c : Int) (w : World) (v0 v1 v2 : Value) (hB : B ≤ b0) (h01 : b0 < b1) (h12 : b1 < b2) (hb2 : b2 < w.heap.size)
    (c0 : w.cell? ⟨b0, 0, none⟩ = some v0) (c1 : w.cell? ⟨b1, 0, none⟩ = some v1) (c2 : w.cell? ⟨b2, 0, none⟩ = some v2)
    (f0 : w.frozen? ⟨b0, 0, none⟩ = false) (f1 : w.frozen? ⟨b1, 0, none⟩ = false) (f2 : w.frozen? ⟨b2, 0, none⟩ = false) :
    CallsD Tryd.prog 19 #[.pointer (some ⟨b0, 0, none⟩), .pointer (some ⟨b1, 0, none⟩), .pointer (some ⟨b2, 0, none⟩)] (.panicking (fl c)) w (Gave B b0 b1 b2 c w) := by
  refine callsD_of_wpS Tryd.func19 rfl fun c₀ cs hu => ?_
  have hb0 : b0 < w.heap.size := by omega
  have hb1 : b1 < w.heap.size := by omega
  have n01 : ¬ b0 = b1 := by omega
  have n10 : ¬ b1 = b0 := by omega
  have n02 : ¬ b0 = b2 := by omega
  have n20 : ¬ b2 = b0 := by omega
  have n12 : ¬ b1 = b2 := by omega
  have n21 : ¬ b2 = b1 := by omega
  have hn0 : ¬ w.heap.size = b0 := by omega
  have hn1 : ¬ w.heap.size = b1 := by omega
  have hn2 : ¬ w.heap.size = b2 := by omega
  simp only [Tryd.ntmps19, List.size_toArray, List.length_cons, List.length_nil, Nat.reduceAdd, Nat.reduceSub, Array.replicate_succ, Array.replicate_zero, List.push_toArray, List.append_toArray, List.nil_append, List.cons_append]
  apply wpS_seq
  apply wpS_region
  simp [wpOpsS, go_sem, recoverD, hu, Exit.thenS, fl, ta_flt]
  apply wpS_of_wp
  go_wp2_with fail
  go_region
  clear hu
  refine ⟨rfl, .panicking [{ v := .iface 38 (.agg #[.int .i64 c]), recovered := true }], rfl, _, results_none rfl _ _ _, rfl, rfl, ?_, ?_, ?_, ?_⟩
  rotate_left
  · simp [go_sem, *]
  · simp [go_sem, *]
  · simp [go_sem, *]
  repeat (first | (with_reducible exact Below.refl _ _) | (with_reducible refine below_sc ?_ ?_ _; · (first | (simp; done) | (simp; omega) | omega)) | (with_reducible refine Below.drew ?_) | (with_reducible refine below_al2 ?_ ?_ _; · (first | omega | (simp; done) | (simp; omega))))

end Go.Proofs.YtlaafpbhhnehgaaDoor
