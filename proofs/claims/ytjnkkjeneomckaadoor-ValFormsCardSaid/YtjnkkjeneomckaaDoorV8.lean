/- The two doors One and Two: a step that gives up is caught. -/
import Derived.Test.YtjnkkjeneomckaaDoorV7e
import Derived.RegionTactic
import Derived.BigRegion
namespace Go.Proofs.YtjnkkjeneomckaaDoor
set_option linter.unusedVariables false
set_option linter.unusedSimpArgs false
open Go.RowKit

/-- what a door answers -/
def resV : Except Int V → V × Int
  | .ok x => (x, 0)
  | .error c => (⟨0, 0, 0, ⟨#[]⟩⟩, c)

theorem frame_mode (c : Frame) (m : FrameMode) : ({ fn := c.fn, tmps := c.tmps, todo := c.todo, defers := c.defers, mode := m, kind := c.kind, roundOf := c.roundOf } : Frame) = { c with mode := m } := rfl
theorem frame_same (c : Frame) (m : FrameMode) (h : c.mode = m) : c = { c with mode := m } := by cases c; cases h; rfl
theorem ta_nil (w : World) : (Instr.typeAssert .nilIface 20 82 true).run Tryd.prog w = .ok (.tuple #[.agg #[.int .i64 0], .bool false]) w := by kernel_rfl
theorem ta_flt (c : Int) (w : World) : (Instr.typeAssert (.iface 82 (.agg #[.int .i64 c])) 20 82 true).run Tryd.prog w = .ok (.tuple #[.agg #[.int .i64 c], .bool true]) w := by kernel_rfl

set_option maxRecDepth 100000 in
/-- the deferred function behind a return: nothing is recovered -/
theorem caught_ret (b : Nat) (w : World) (v : Value) :
    CallsD Tryd.prog 64 #[.pointer (some ⟨b, 0, none⟩), v] .returning w fun e u' w' => u' = .returning ∧ e = .returned (.tuple #[]) ∧ Below w.heap.size w w' := by
  refine callsD_of_wpS Tryd.func64 rfl fun c₀ cs hu => ?_
  simp only [Tryd.ntmps64, List.size_toArray, List.length_cons, List.length_nil, Nat.reduceAdd, Nat.reduceSub, Array.replicate_succ, Array.replicate_zero, List.push_toArray, List.append_toArray, List.nil_append, List.cons_append]
  apply wpS_seq
  apply wpS_region
  simp [wpOpsS, go_sem, recoverD, hu, Exit.thenS, ta_nil]
  apply wpS_of_wp
  go_wp2_with fail
  exact ⟨rfl, .returning, congrArg (· :: cs) (frame_same c₀ _ hu), _, results_none rfl _ _ _, rfl, rfl, below_box _ _⟩

/-- what the deferred function leaves: the zero value and the error -/
def Caught (B b b2 : Nat) (c : Int) (w : World) (e : Ending) (u' : FrameMode) (w' : World) : Prop :=
  u' = .panicking [{ v := .iface 82 (.agg #[.int .i64 c]), recovered := true }] ∧ e = .returned (.tuple #[]) ∧ Below B w w' ∧
  w'.cell? ⟨b, 0, none⟩ = some (.int .i64 0) ∧ w'.cell? ⟨b, 1, none⟩ = some (.int .i64 0) ∧ w'.cell? ⟨b, 2, none⟩ = some (.int .u64 0) ∧ w'.cell? ⟨b, 3, none⟩ = some (.string ⟨#[]⟩) ∧
  w'.cell? ⟨b2, 0, none⟩ = some (.int .i64 c)

set_option maxHeartbeats 2000000 in
set_option maxRecDepth 100000 in
theorem caught_pan (B b b2 : Nat) (c : Int) (w : World) (v0 v1 v2 v3 v4 : Value) (hB : B ≤ b) (hb2 : b < b2) (hbw : b < w.heap.size) (hbw2 : b2 < w.heap.size)
    (c0 : w.cell? ⟨b, 0, none⟩ = some v0) (c1 : w.cell? ⟨b, 1, none⟩ = some v1) (c2 : w.cell? ⟨b, 2, none⟩ = some v2) (c3 : w.cell? ⟨b, 3, none⟩ = some v3) (c4 : w.cell? ⟨b2, 0, none⟩ = some v4)
    (f0 : w.frozen? ⟨b, 0, none⟩ = false) (f1 : w.frozen? ⟨b, 1, none⟩ = false) (f2 : w.frozen? ⟨b, 2, none⟩ = false) (f3 : w.frozen? ⟨b, 3, none⟩ = false) (f4 : w.frozen? ⟨b2, 0, none⟩ = false) :
    CallsD Tryd.prog 64 #[.pointer (some ⟨b, 0, none⟩), .pointer (some ⟨b2, 0, none⟩)] (.panicking (flt c)) w (Caught B b b2 c w) := by
  refine callsD_of_wpS Tryd.func64 rfl fun c₀ cs hu => ?_
  have hbb : ¬ b = b2 := by omega
  have hbb' : ¬ b2 = b := by omega
  have hn1 : ¬ w.heap.size = b := by omega
  have hn2 : ¬ w.heap.size = b2 := by omega
  simp only [Tryd.ntmps64, List.size_toArray, List.length_cons, List.length_nil, Nat.reduceAdd, Nat.reduceSub, Array.replicate_succ, Array.replicate_zero, List.push_toArray, List.append_toArray, List.nil_append, List.cons_append]
  apply wpS_seq
  apply wpS_region
  simp [wpOpsS, go_sem, recoverD, hu, Exit.thenS, flt, ta_flt]
  apply wpS_of_wp
  go_wp2_with fail
  go_region
  clear hu
  refine ⟨rfl, .panicking [{ v := .iface 82 (.agg #[.int .i64 c]), recovered := true }], rfl, _, results_none rfl _ _ _, rfl, rfl, ?_, ?_, ?_, ?_, ?_, ?_⟩
  rotate_left
  · simp [go_sem, *]
  · simp [go_sem, *]
  · simp [go_sem, *]
  · simp [go_sem, *]
  · simp [go_sem, *]
  repeat (first | (with_reducible exact Below.refl _ _) | (with_reducible refine below_sc ?_ ?_ _; · (first | (simp; done) | (simp; omega) | omega)) | (with_reducible refine Below.drew ?_) | (with_reducible refine below_al2 ?_ ?_ _; · (first | omega | (simp; done) | (simp; omega))))


set_option maxHeartbeats 2000000 in
set_option maxRecDepth 100000 in
theorem caught1_c (cap : Array Value) (r : Except Int V) (w : World) (hcall : ∀ w1, Below w.heap.size w w1 → Calls Tryd.prog 44 cap w1 (OutV r w1)) :
    Calls Tryd.prog 43 #[.func (.func 44) #[] cap] w fun e w' => e = .returned (.tuple #[.agg #[.int .i64 (resV r).1.k, .int .i64 (resV r).1.n, .int .u64 (resV r).1.f, .string (resV r).1.t], .int .i64 (resV r).2]) ∧ Below w.heap.size w w' := by
  have HC := Lib.hid hcall; clear hcall
  have hmf : ∀ (fn : Fn) (first cap : Array Value) (w : World), (Instr.makeFunc fn first cap).run Tryd.prog w = .ok (.func fn first cap) w := fun _ _ _ _ => rfl
  go_enter_defers Tryd.func43, Tryd.ntmps43
  go_wp2_with (go_at_call 44; refine (HC.out _ (by repeat (first | (with_reducible exact Below.refl _ _) | (with_reducible refine below_al ?_ _) | (with_reducible refine below_drewN ?_ _) | (with_reducible refine Below.drew ?_) | (with_reducible refine below_via (by assumption) ?_) | (with_reducible refine below_sc ?_ ?_ _; · (first | (simp; done) | (simp; omega) | omega))))).mono ?_; rintro e w' h; obtain ⟨⟨rk, rn, rf, rt, hr, rfl⟩ | ⟨rc, hr, rfl⟩, hb⟩ := outV_cases h <;> (clear h; obtain ⟨hc, hf⟩ := bcell hb; (try (have hz0 : w.heap.size < w'.heap.size := (by have := hb.size; (try simp at this); omega))); (try (have hz1 : w.heap.size + 1 < w'.heap.size := (by have := hb.size; (try simp at this); omega))); (try (have hz2 : w.heap.size + 2 < w'.heap.size := (by have := hb.size; (try simp at this); omega))); (try (have hz3 : w.heap.size + 3 < w'.heap.size := (by have := hb.size; (try simp at this); omega)))))
  · subst hr
    have k0 : w'.cell? ⟨w.heap.size, 0, none⟩ = some (.int .i64 0) := by rw [hc _ _ (by simp; try omega)]; simp [go_sem]
    have k1 : w'.cell? ⟨w.heap.size, 1, none⟩ = some (.int .i64 0) := by rw [hc _ _ (by simp; try omega)]; simp [go_sem]
    have k2 : w'.cell? ⟨w.heap.size, 2, none⟩ = some (.int .u64 0) := by rw [hc _ _ (by simp; try omega)]; simp [go_sem]
    have k3 : w'.cell? ⟨w.heap.size, 3, none⟩ = some (.string ⟨#[]⟩) := by rw [hc _ _ (by simp; try omega)]; simp [go_sem]
    have k4 : w'.cell? ⟨w.heap.size + 1, 0, none⟩ = some (.int .i64 0) := by rw [hc _ _ (by simp; try omega)]; simp [go_sem]
    have HC2 := Lib.hid hc; clear hc
    refine leaves_cons (f := 64) (args := #[.pointer (some ⟨w.heap.size, 0, none⟩), .pointer (some ⟨w.heap.size + 1, 0, none⟩)]) (by simp) (by simp [go_sem]) ?_
    refine (caught_ret _ _ _).mono ?_
    rintro e u' w'' ⟨rfl, rfl, hb2⟩
    obtain ⟨hc2, hf2⟩ := bcell hb2
    have m0 : w''.cell? ⟨w.heap.size, 0, none⟩ = some (.int .i64 rk) := by rw [hc2 _ _ (by simp; omega)]; simp [go_sem, k0, k1, k2, k3, k4]
    have m1 : w''.cell? ⟨w.heap.size, 1, none⟩ = some (.int .i64 rn) := by rw [hc2 _ _ (by simp; omega)]; simp [go_sem, k0, k1, k2, k3, k4]
    have m2 : w''.cell? ⟨w.heap.size, 2, none⟩ = some (.int .u64 rf) := by rw [hc2 _ _ (by simp; omega)]; simp [go_sem, k0, k1, k2, k3, k4]
    have m3 : w''.cell? ⟨w.heap.size, 3, none⟩ = some (.string rt) := by rw [hc2 _ _ (by simp; omega)]; simp [go_sem, k0, k1, k2, k3, k4]
    have m4 : w''.cell? ⟨w.heap.size + 1, 0, none⟩ = some (.int .i64 0) := by rw [hc2 _ _ (by simp; omega)]; simp [go_sem, k0, k1, k2, k3, k4]
    clear hc2 hf2
    exact ⟨.tuple #[.agg #[.int .i64 rk, .int .i64 rn, .int .u64 rf, .string rt], .int .i64 0], by simp [results, Tryd.results43, go_sem, m0, m1, m2, m3, m4], rfl, (by repeat (first | (with_reducible exact Below.refl _ _) | (with_reducible refine below_al ?_ _) | (with_reducible refine below_drewN ?_ _) | (with_reducible refine Below.drew ?_) | (with_reducible refine below_via (by assumption) ?_) | (with_reducible refine below_sc ?_ ?_ _; · (first | (simp; done) | (simp; omega) | omega))))⟩
  · subst hr
    have k0 : w'.cell? ⟨w.heap.size, 0, none⟩ = some (.int .i64 0) := by rw [hc _ _ (by simp; try omega)]; simp [go_sem]
    have k1 : w'.cell? ⟨w.heap.size, 1, none⟩ = some (.int .i64 0) := by rw [hc _ _ (by simp; try omega)]; simp [go_sem]
    have k2 : w'.cell? ⟨w.heap.size, 2, none⟩ = some (.int .u64 0) := by rw [hc _ _ (by simp; try omega)]; simp [go_sem]
    have k3 : w'.cell? ⟨w.heap.size, 3, none⟩ = some (.string ⟨#[]⟩) := by rw [hc _ _ (by simp; try omega)]; simp [go_sem]
    have k4 : w'.cell? ⟨w.heap.size + 1, 0, none⟩ = some (.int .i64 0) := by rw [hc _ _ (by simp; try omega)]; simp [go_sem]
    have HC2 := Lib.hid hc; clear hc
    refine leaves_cons (f := 64) (args := #[.pointer (some ⟨w.heap.size, 0, none⟩), .pointer (some ⟨w.heap.size + 1, 0, none⟩)]) (by simp [flt]) (by simp [go_sem]) ?_
    refine (caught_pan w.heap.size w.heap.size (w.heap.size + 1) rc _ (.int .i64 0) (.int .i64 0) (.int .u64 0) (.string ⟨#[]⟩) (.int .i64 0) (Nat.le_refl _) (by omega) (by omega) (by omega) k0 k1 k2 k3 k4 (by rw [hf _ _ (by simp; try omega)]; simp [go_sem]) (by rw [hf _ _ (by simp; try omega)]; simp [go_sem]) (by rw [hf _ _ (by simp; try omega)]; simp [go_sem]) (by rw [hf _ _ (by simp; try omega)]; simp [go_sem]) (by rw [hf _ _ (by simp; try omega)]; simp [go_sem])).mono ?_
    rintro e u' w'' ⟨rfl, rfl, hb2, d0, d1, d2, d3, d4⟩
    exact ⟨.tuple #[.agg #[.int .i64 0, .int .i64 0, .int .u64 0, .string ⟨#[]⟩], .int .i64 rc], by simp [results, Tryd.results43, go_sem, d0, d1, d2, d3, d4], rfl, Below.trans (by repeat (first | (with_reducible exact Below.refl _ _) | (with_reducible refine below_al ?_ _) | (with_reducible refine below_drewN ?_ _) | (with_reducible refine Below.drew ?_) | (with_reducible refine below_via (by assumption) ?_) | (with_reducible refine below_sc ?_ ?_ _; · (first | (simp; done) | (simp; omega) | omega)))) hb2⟩

set_option maxHeartbeats 2000000 in
set_option maxRecDepth 100000 in
theorem caught2_c (cap : Array Value) (r : Except Int V) (w : World) (hcall : ∀ w1, Below w.heap.size w w1 → Calls Tryd.prog 46 cap w1 (OutV r w1)) :
    Calls Tryd.prog 43 #[.func (.func 46) #[] cap] w fun e w' => e = .returned (.tuple #[.agg #[.int .i64 (resV r).1.k, .int .i64 (resV r).1.n, .int .u64 (resV r).1.f, .string (resV r).1.t], .int .i64 (resV r).2]) ∧ Below w.heap.size w w' := by
  have HC := Lib.hid hcall; clear hcall
  have hmf : ∀ (fn : Fn) (first cap : Array Value) (w : World), (Instr.makeFunc fn first cap).run Tryd.prog w = .ok (.func fn first cap) w := fun _ _ _ _ => rfl
  go_enter_defers Tryd.func43, Tryd.ntmps43
  go_wp2_with (go_at_call 46; refine (HC.out _ (by repeat (first | (with_reducible exact Below.refl _ _) | (with_reducible refine below_al ?_ _) | (with_reducible refine below_drewN ?_ _) | (with_reducible refine Below.drew ?_) | (with_reducible refine below_via (by assumption) ?_) | (with_reducible refine below_sc ?_ ?_ _; · (first | (simp; done) | (simp; omega) | omega))))).mono ?_; rintro e w' h; obtain ⟨⟨rk, rn, rf, rt, hr, rfl⟩ | ⟨rc, hr, rfl⟩, hb⟩ := outV_cases h <;> (clear h; obtain ⟨hc, hf⟩ := bcell hb; (try (have hz0 : w.heap.size < w'.heap.size := (by have := hb.size; (try simp at this); omega))); (try (have hz1 : w.heap.size + 1 < w'.heap.size := (by have := hb.size; (try simp at this); omega))); (try (have hz2 : w.heap.size + 2 < w'.heap.size := (by have := hb.size; (try simp at this); omega))); (try (have hz3 : w.heap.size + 3 < w'.heap.size := (by have := hb.size; (try simp at this); omega)))))
  · subst hr
    have k0 : w'.cell? ⟨w.heap.size, 0, none⟩ = some (.int .i64 0) := by rw [hc _ _ (by simp; try omega)]; simp [go_sem]
    have k1 : w'.cell? ⟨w.heap.size, 1, none⟩ = some (.int .i64 0) := by rw [hc _ _ (by simp; try omega)]; simp [go_sem]
    have k2 : w'.cell? ⟨w.heap.size, 2, none⟩ = some (.int .u64 0) := by rw [hc _ _ (by simp; try omega)]; simp [go_sem]
    have k3 : w'.cell? ⟨w.heap.size, 3, none⟩ = some (.string ⟨#[]⟩) := by rw [hc _ _ (by simp; try omega)]; simp [go_sem]
    have k4 : w'.cell? ⟨w.heap.size + 1, 0, none⟩ = some (.int .i64 0) := by rw [hc _ _ (by simp; try omega)]; simp [go_sem]
    have HC2 := Lib.hid hc; clear hc
    refine leaves_cons (f := 64) (args := #[.pointer (some ⟨w.heap.size, 0, none⟩), .pointer (some ⟨w.heap.size + 1, 0, none⟩)]) (by simp) (by simp [go_sem]) ?_
    refine (caught_ret _ _ _).mono ?_
    rintro e u' w'' ⟨rfl, rfl, hb2⟩
    obtain ⟨hc2, hf2⟩ := bcell hb2
    have m0 : w''.cell? ⟨w.heap.size, 0, none⟩ = some (.int .i64 rk) := by rw [hc2 _ _ (by simp; omega)]; simp [go_sem, k0, k1, k2, k3, k4]
    have m1 : w''.cell? ⟨w.heap.size, 1, none⟩ = some (.int .i64 rn) := by rw [hc2 _ _ (by simp; omega)]; simp [go_sem, k0, k1, k2, k3, k4]
    have m2 : w''.cell? ⟨w.heap.size, 2, none⟩ = some (.int .u64 rf) := by rw [hc2 _ _ (by simp; omega)]; simp [go_sem, k0, k1, k2, k3, k4]
    have m3 : w''.cell? ⟨w.heap.size, 3, none⟩ = some (.string rt) := by rw [hc2 _ _ (by simp; omega)]; simp [go_sem, k0, k1, k2, k3, k4]
    have m4 : w''.cell? ⟨w.heap.size + 1, 0, none⟩ = some (.int .i64 0) := by rw [hc2 _ _ (by simp; omega)]; simp [go_sem, k0, k1, k2, k3, k4]
    clear hc2 hf2
    exact ⟨.tuple #[.agg #[.int .i64 rk, .int .i64 rn, .int .u64 rf, .string rt], .int .i64 0], by simp [results, Tryd.results43, go_sem, m0, m1, m2, m3, m4], rfl, (by repeat (first | (with_reducible exact Below.refl _ _) | (with_reducible refine below_al ?_ _) | (with_reducible refine below_drewN ?_ _) | (with_reducible refine Below.drew ?_) | (with_reducible refine below_via (by assumption) ?_) | (with_reducible refine below_sc ?_ ?_ _; · (first | (simp; done) | (simp; omega) | omega))))⟩
  · subst hr
    have k0 : w'.cell? ⟨w.heap.size, 0, none⟩ = some (.int .i64 0) := by rw [hc _ _ (by simp; try omega)]; simp [go_sem]
    have k1 : w'.cell? ⟨w.heap.size, 1, none⟩ = some (.int .i64 0) := by rw [hc _ _ (by simp; try omega)]; simp [go_sem]
    have k2 : w'.cell? ⟨w.heap.size, 2, none⟩ = some (.int .u64 0) := by rw [hc _ _ (by simp; try omega)]; simp [go_sem]
    have k3 : w'.cell? ⟨w.heap.size, 3, none⟩ = some (.string ⟨#[]⟩) := by rw [hc _ _ (by simp; try omega)]; simp [go_sem]
    have k4 : w'.cell? ⟨w.heap.size + 1, 0, none⟩ = some (.int .i64 0) := by rw [hc _ _ (by simp; try omega)]; simp [go_sem]
    have HC2 := Lib.hid hc; clear hc
    refine leaves_cons (f := 64) (args := #[.pointer (some ⟨w.heap.size, 0, none⟩), .pointer (some ⟨w.heap.size + 1, 0, none⟩)]) (by simp [flt]) (by simp [go_sem]) ?_
    refine (caught_pan w.heap.size w.heap.size (w.heap.size + 1) rc _ (.int .i64 0) (.int .i64 0) (.int .u64 0) (.string ⟨#[]⟩) (.int .i64 0) (Nat.le_refl _) (by omega) (by omega) (by omega) k0 k1 k2 k3 k4 (by rw [hf _ _ (by simp; try omega)]; simp [go_sem]) (by rw [hf _ _ (by simp; try omega)]; simp [go_sem]) (by rw [hf _ _ (by simp; try omega)]; simp [go_sem]) (by rw [hf _ _ (by simp; try omega)]; simp [go_sem]) (by rw [hf _ _ (by simp; try omega)]; simp [go_sem])).mono ?_
    rintro e u' w'' ⟨rfl, rfl, hb2, d0, d1, d2, d3, d4⟩
    exact ⟨.tuple #[.agg #[.int .i64 0, .int .i64 0, .int .u64 0, .string ⟨#[]⟩], .int .i64 rc], by simp [results, Tryd.results43, go_sem, d0, d1, d2, d3, d4], rfl, Below.trans (by repeat (first | (with_reducible exact Below.refl _ _) | (with_reducible refine below_al ?_ _) | (with_reducible refine below_drewN ?_ _) | (with_reducible refine Below.drew ?_) | (with_reducible refine below_via (by assumption) ?_) | (with_reducible refine below_sc ?_ ?_ _; · (first | (simp; done) | (simp; omega) | omega)))) hb2⟩

/-- a door's answer -/
def OutD (r : Except Int V) (w : World) (e : Ending) (w' : World) : Prop :=
  e = .returned (.tuple #[.agg #[.int .i64 (resV r).1.k, .int .i64 (resV r).1.n, .int .u64 (resV r).1.f, .string (resV r).1.t], .int .i64 (resV r).2]) ∧ Below w.heap.size w w'

set_option maxRecDepth 100000 in
set_option maxHeartbeats 2000000 in
theorem oneF_c (b1 b2 b3 : Nat) (code kind k n f : Int) (t : ByteArray) (w : World) (hn : I64 n) (ht : Tab w)
    (c1 : w.cell? ⟨b1, 0, none⟩ = some (.int .i64 code)) (c2 : w.cell? ⟨b2, 0, none⟩ = some (.int .i64 kind)) (d0 : w.cell? ⟨b3, 0, none⟩ = some (.int .i64 k)) (d1 : w.cell? ⟨b3, 1, none⟩ = some (.int .i64 n)) (d2 : w.cell? ⟨b3, 2, none⟩ = some (.int .u64 f)) (d3 : w.cell? ⟨b3, 3, none⟩ = some (.string t)) :
    Calls Tryd.prog 44 #[.pointer (some ⟨b1, 0, none⟩), .pointer (some ⟨b2, 0, none⟩), .pointer (some ⟨b3, 0, none⟩)] w (OutV (oneS code kind k n f t) w) := by
  have l1 := World.block_lt_of_cell? w _ c1
  have l2 := World.block_lt_of_cell? w _ c2
  have l3 := World.block_lt_of_cell? w _ d0
  simp only at l1 l2 l3
  go_enter Tryd.func44, Tryd.ntmps44
  go_wp2_with (go_at_call 45; refine (one_c _ _ _ _ _ _ _ hn (ht.below (by repeat (first | (with_reducible exact Below.refl _ _) | (with_reducible refine below_al ?_ _) | (with_reducible refine below_drewN ?_ _) | (with_reducible refine Below.drew ?_) | (with_reducible refine below_via (by assumption) ?_) | (with_reducible refine below_sc ?_ ?_ _; · (first | (simp; done) | (simp; omega) | omega)))))).mono ?_; rintro e w' h; obtain ⟨⟨rk, rn, rf, rt, hr, rfl⟩ | ⟨rc, hr, rfl⟩, hb⟩ := outV_cases h <;> (clear h; (try (replace hb := below_undrew hb)); (try (replace hb := below_undrewN hb)); obtain ⟨hc, hf⟩ := bcell hb; (try (have hz0 : w.heap.size < w'.heap.size := (by have := hb.size; (try simp at this); omega))); (try (have hz1 : w.heap.size + 1 < w'.heap.size := (by have := hb.size; (try simp at this); omega))); (try (have hz2 : w.heap.size + 2 < w'.heap.size := (by have := hb.size; (try simp at this); omega))); (try (have hz3 : w.heap.size + 3 < w'.heap.size := (by have := hb.size; (try simp at this); omega)))))
  · (exact bodyPost_ret (v := .agg #[.int .i64 (rk), .int .i64 (rn), .int .u64 (rf), .string (rt)]) (by simp [results, Tryd.results44, go_sem, *]) rfl (outV_ret (x := ⟨rk, rn, rf, rt⟩) (by first | exact hr | rfl) (by repeat (first | (with_reducible exact Below.refl _ _) | (with_reducible refine below_al ?_ _) | (with_reducible refine below_drewN ?_ _) | (with_reducible refine Below.drew ?_) | (with_reducible refine below_via (by assumption) ?_) | (with_reducible refine below_sc ?_ ?_ _; · (first | (simp; done) | (simp; omega) | omega))))))
  · (exact ⟨rfl, outV_pan (by first | exact hr | rfl) (by repeat (first | (with_reducible exact Below.refl _ _) | (with_reducible refine below_al ?_ _) | (with_reducible refine below_drewN ?_ _) | (with_reducible refine Below.drew ?_) | (with_reducible refine below_via (by assumption) ?_) | (with_reducible refine below_sc ?_ ?_ _; · (first | (simp; done) | (simp; omega) | omega))))⟩)

set_option maxRecDepth 100000 in
set_option maxHeartbeats 2000000 in
theorem oneD_c (code kind k n f : Int) (t : ByteArray) (w : World) (hn : I64 n) (ht : Tab w) :
    Calls Tryd.prog 25 #[.int .i64 code, .int .i64 kind, .agg #[.int .i64 k, .int .i64 n, .int .u64 f, .string t]] w (OutD (oneS code kind k n f t) w) := by
  have hmf : ∀ (fn : Fn) (first cap : Array Value) (w : World), (Instr.makeFunc fn first cap).run Tryd.prog w = .ok (.func fn first cap) w := fun _ _ _ _ => rfl
  go_enter Tryd.func25, Tryd.ntmps25
  go_wp2_with fail
  refine (caught1_c _ (oneS code kind k n f t) _ ?_).mono ?_
  · intro w1 hb
    obtain ⟨hc, hf⟩ := bcell hb
    exact oneF_c _ _ _ _ _ _ _ _ _ _ hn (ht.below (by repeat (first | (with_reducible exact Below.refl _ _) | (with_reducible refine below_al ?_ _) | (with_reducible refine below_drewN ?_ _) | (with_reducible refine Below.drew ?_) | (with_reducible refine below_via (by assumption) ?_) | (with_reducible refine below_sc ?_ ?_ _; · (first | (simp; done) | (simp; omega) | omega))))) (by rw [hc _ _ (by simp; try omega)]; simp [go_sem]) (by rw [hc _ _ (by simp; try omega)]; simp [go_sem]) (by rw [hc _ _ (by simp; try omega)]; simp [go_sem]) (by rw [hc _ _ (by simp; try omega)]; simp [go_sem]) (by rw [hc _ _ (by simp; try omega)]; simp [go_sem]) (by rw [hc _ _ (by simp; try omega)]; simp [go_sem])
  · rintro e w' ⟨rfl, hb⟩
    obtain ⟨hc, hf⟩ := bcell hb
    generalize oneS code kind k n f t = r at *
    go_wp2_with fail
    exact bodyPost_ret (v := .tuple #[.agg #[.int .i64 (resV r).1.k, .int .i64 (resV r).1.n, .int .u64 (resV r).1.f, .string (resV r).1.t], .int .i64 (resV r).2]) (by simp [results, Tryd.results25, go_sem, *]) rfl ⟨rfl, (by repeat (first | (with_reducible exact Below.refl _ _) | (with_reducible refine below_al ?_ _) | (with_reducible refine below_drewN ?_ _) | (with_reducible refine Below.drew ?_) | (with_reducible refine below_via (by assumption) ?_) | (with_reducible refine below_sc ?_ ?_ _; · (first | (simp; done) | (simp; omega) | omega))))⟩

set_option maxRecDepth 100000 in
set_option maxHeartbeats 2000000 in
theorem twoF_c (b1 b2 b3 : Nat) (code k n f : Int) (t : ByteArray) (k' n' f' : Int) (t' : ByteArray) (w : World) (hn : I64 n) (hn' : I64 n')
    (c1 : w.cell? ⟨b1, 0, none⟩ = some (.int .i64 code)) (a0 : w.cell? ⟨b2, 0, none⟩ = some (.int .i64 k)) (a1 : w.cell? ⟨b2, 1, none⟩ = some (.int .i64 n)) (a2 : w.cell? ⟨b2, 2, none⟩ = some (.int .u64 f)) (a3 : w.cell? ⟨b2, 3, none⟩ = some (.string t))
    (d0 : w.cell? ⟨b3, 0, none⟩ = some (.int .i64 k')) (d1 : w.cell? ⟨b3, 1, none⟩ = some (.int .i64 n')) (d2 : w.cell? ⟨b3, 2, none⟩ = some (.int .u64 f')) (d3 : w.cell? ⟨b3, 3, none⟩ = some (.string t')) :
    Calls Tryd.prog 46 #[.pointer (some ⟨b1, 0, none⟩), .pointer (some ⟨b2, 0, none⟩), .pointer (some ⟨b3, 0, none⟩)] w (OutV (twoS code k n f t k' n' f' t') w) := by
  have l1 := World.block_lt_of_cell? w _ c1
  have l2 := World.block_lt_of_cell? w _ a0
  have l3 := World.block_lt_of_cell? w _ d0
  simp only at l1 l2 l3
  go_enter Tryd.func46, Tryd.ntmps46
  go_wp2_with (go_at_call 47; refine (two_c _ _ _ _ _ _ _ _ _ _ hn hn').mono ?_; rintro e w' h; obtain ⟨⟨rk, rn, rf, rt, hr, rfl⟩ | ⟨rc, hr, rfl⟩, hb⟩ := outV_cases h <;> (clear h; (try (replace hb := below_undrew hb)); (try (replace hb := below_undrewN hb)); obtain ⟨hc, hf⟩ := bcell hb; (try (have hz0 : w.heap.size < w'.heap.size := (by have := hb.size; (try simp at this); omega))); (try (have hz1 : w.heap.size + 1 < w'.heap.size := (by have := hb.size; (try simp at this); omega))); (try (have hz2 : w.heap.size + 2 < w'.heap.size := (by have := hb.size; (try simp at this); omega))); (try (have hz3 : w.heap.size + 3 < w'.heap.size := (by have := hb.size; (try simp at this); omega)))))
  · (exact bodyPost_ret (v := .agg #[.int .i64 (rk), .int .i64 (rn), .int .u64 (rf), .string (rt)]) (by simp [results, Tryd.results46, go_sem, *]) rfl (outV_ret (x := ⟨rk, rn, rf, rt⟩) (by first | exact hr | rfl) (by repeat (first | (with_reducible exact Below.refl _ _) | (with_reducible refine below_al ?_ _) | (with_reducible refine below_drewN ?_ _) | (with_reducible refine Below.drew ?_) | (with_reducible refine below_via (by assumption) ?_) | (with_reducible refine below_sc ?_ ?_ _; · (first | (simp; done) | (simp; omega) | omega))))))
  · (exact ⟨rfl, outV_pan (by first | exact hr | rfl) (by repeat (first | (with_reducible exact Below.refl _ _) | (with_reducible refine below_al ?_ _) | (with_reducible refine below_drewN ?_ _) | (with_reducible refine Below.drew ?_) | (with_reducible refine below_via (by assumption) ?_) | (with_reducible refine below_sc ?_ ?_ _; · (first | (simp; done) | (simp; omega) | omega))))⟩)

set_option maxRecDepth 100000 in
set_option maxHeartbeats 2000000 in
theorem twoD_c (code k n f : Int) (t : ByteArray) (k' n' f' : Int) (t' : ByteArray) (w : World) (hn : I64 n) (hn' : I64 n') :
    Calls Tryd.prog 26 #[.int .i64 code, .agg #[.int .i64 k, .int .i64 n, .int .u64 f, .string t], .agg #[.int .i64 k', .int .i64 n', .int .u64 f', .string t']] w (OutD (twoS code k n f t k' n' f' t') w) := by
  have hmf : ∀ (fn : Fn) (first cap : Array Value) (w : World), (Instr.makeFunc fn first cap).run Tryd.prog w = .ok (.func fn first cap) w := fun _ _ _ _ => rfl
  go_enter Tryd.func26, Tryd.ntmps26
  go_wp2_with fail
  refine (caught2_c _ (twoS code k n f t k' n' f' t') _ ?_).mono ?_
  · intro w1 hb
    obtain ⟨hc, hf⟩ := bcell hb
    exact twoF_c _ _ _ _ _ _ _ _ _ _ _ _ _ hn hn' (by rw [hc _ _ (by simp; try omega)]; simp [go_sem]) (by rw [hc _ _ (by simp; try omega)]; simp [go_sem]) (by rw [hc _ _ (by simp; try omega)]; simp [go_sem]) (by rw [hc _ _ (by simp; try omega)]; simp [go_sem]) (by rw [hc _ _ (by simp; try omega)]; simp [go_sem]) (by rw [hc _ _ (by simp; try omega)]; simp [go_sem]) (by rw [hc _ _ (by simp; try omega)]; simp [go_sem]) (by rw [hc _ _ (by simp; try omega)]; simp [go_sem]) (by rw [hc _ _ (by simp; try omega)]; simp [go_sem])
  · rintro e w' ⟨rfl, hb⟩
    obtain ⟨hc, hf⟩ := bcell hb
    generalize twoS code k n f t k' n' f' t' = r at *
    go_wp2_with fail
    exact bodyPost_ret (v := .tuple #[.agg #[.int .i64 (resV r).1.k, .int .i64 (resV r).1.n, .int .u64 (resV r).1.f, .string (resV r).1.t], .int .i64 (resV r).2]) (by simp [results, Tryd.results26, go_sem, *]) rfl ⟨rfl, (by repeat (first | (with_reducible exact Below.refl _ _) | (with_reducible refine below_al ?_ _) | (with_reducible refine below_drewN ?_ _) | (with_reducible refine Below.drew ?_) | (with_reducible refine below_via (by assumption) ?_) | (with_reducible refine below_sc ?_ ?_ _; · (first | (simp; done) | (simp; omega) | omega))))⟩

end Go.Proofs.YtjnkkjeneomckaaDoor
