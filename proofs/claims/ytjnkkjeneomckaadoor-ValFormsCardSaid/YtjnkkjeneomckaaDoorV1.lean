/- The smallest functions of val and freshetref01: what they return, whatever memory they are called in. -/
import Derived.Test.YtjnkkjeneomckaaDoorRows
import Derived.WalkKit
import Derived.WalkSpells
import Derived.WalkLawsBesides
import Derived.Deep.QuietTactic
import Derived.BigQuiet
import Derived.Laws.Externs
namespace Go.Proofs.YtjnkkjeneomckaaDoor
set_option linter.unusedVariables false
set_option linter.unusedSimpArgs false
open Go.RowKit

theorem run_frombits (b : Int) (w : World) : (callFunc 48 #[.int .u64 b]).run Tryd.prog w = .ok (.value (.float .f64 b.toNat)) w := by
  rw [run_callFunc_extern (e := Extern.MathFloatBits.float64frombits) Tryd.func48 (by kernel_rfl) (by kernel_rfl) (by kernel_rfl) (by kernel_rfl)]
  rfl
theorem run_tobits (b : Nat) (w : World) : (callFunc 88 #[.float .f64 b]).run Tryd.prog w = .ok (.value (.int .u64 b)) w := by
  rw [run_callFunc_extern (e := Extern.MathFloatBits.float64bits) Tryd.func88 (by kernel_rfl) (by kernel_rfl) (by kernel_rfl) (by kernel_rfl)]
  rfl

/-- not equal to itself: a NaN -/
def fNaN (b : Int) : Bool := FloatKind.f64.format.order b.toNat b.toNat != some .eq
def plainI (b : Int) : Int := if fNaN b then 0x7ff8000000000000 else if b == 0x8000000000000000 then 0 else b

set_option maxRecDepth 100000 in
set_option maxHeartbeats 400000 in
theorem plain_c (b : Int) (w : World) :
    Calls Tryd.prog 28 #[.int .u64 b] w fun e w' => e = .returned (.int .u64 (plainI b)) ∧ w' = w := by
  have h1 := run_frombits
  go_enter Tryd.func28, Tryd.ntmps28
  go_wp2_with fail
  all_goals
    go_ret
    refine ⟨?_, rfl⟩
    congr 2
    simp [plainI, fNaN, *]

/-- equality of two values -/
def eqV (k n f : Int) (t : ByteArray) (k' n' f' : Int) (t' : ByteArray) : Bool := k == k' && n == n' && f == f' && decide (t = t')

theorem toList_inj (a b : ByteArray) : a.toList = b.toList ↔ a = b := by
  rw [ByteArray.toList_eq, ByteArray.toList_eq]
  constructor
  · intro e
    have : a.data = b.data := Array.toList_inj.1 e
    cases a; cases b; cases this; rfl
  · rintro rfl; rfl

theorem run_eqV (k n f : Int) (t : ByteArray) (k' n' f' : Int) (t' : ByteArray) (w : World) :
    (binOp .eql 24 (.agg #[.int .i64 k, .int .i64 n, .int .u64 f, .string t]) (.agg #[.int .i64 k', .int .i64 n', .int .u64 f', .string t'])).run Tryd.prog w = .ok (.bool (eqV k n f t k' n' f' t')) w := by
  simp [go_sem, Tryd.underlying24]
  unfold eqV
  simp only [toList_inj]
  by_cases h1 : k = k' <;> by_cases h2 : n = n' <;> by_cases h3 : f = f' <;> by_cases h4 : t = t' <;> simp [h1, h2, h3, h4]

theorem run_neV (k n f : Int) (t : ByteArray) (k' n' f' : Int) (t' : ByteArray) (w : World) :
    (binOp .neq 24 (.agg #[.int .i64 k, .int .i64 n, .int .u64 f, .string t]) (.agg #[.int .i64 k', .int .i64 n', .int .u64 f', .string t'])).run Tryd.prog w = .ok (.bool (!eqV k n f t k' n' f' t')) w := by
  simp [go_sem, Tryd.underlying24]
  unfold eqV
  simp only [toList_inj]
  by_cases h1 : k = k' <;> by_cases h2 : n = n' <;> by_cases h3 : f = f' <;> by_cases h4 : t = t' <;> simp [h1, h2, h3, h4]

theorem eqV_iff (k n f : Int) (t : ByteArray) (k' n' f' : Int) (t' : ByteArray) : eqV k n f t k' n' f' t' = true ↔ k = k' ∧ n = n' ∧ f = f' ∧ t = t' := by
  simp [eqV, and_assoc]

/-- is it a value? -/
def soundV (k n f : Int) (t : ByteArray) : Bool :=
  if k == 0 then eqV k n f t 0 0 0 ⟨#[]⟩
  else if k == 1 then eqV k n f t 1 n 0 ⟨#[]⟩ && (n == 0 || n == 1)
  else if k == 2 then eqV k n f t 2 n 0 ⟨#[]⟩
  else if k == 3 then eqV k n f t 3 0 f ⟨#[]⟩ && plainI f == f
  else if k == 4 then eqV k n f t 4 0 0 t && decide (t.size ≤ 4096)
  else false

theorem and_one_eq (n : Int) (h1 : -9223372036854775808 ≤ n) (h2 : n ≤ 9223372036854775807) : (n == bits .and .i64 n 1) = (n == 0 || n == 1) := by
  have key : bits .and .i64 n 1 = n % 2 := by
    show IntKind.i64.wrap (((BitVec.ofInt 64 n) &&& (BitVec.ofInt 64 1)).toNat : Int) = n % 2
    rw [BitVec.toNat_and, BitVec.toNat_ofInt, BitVec.toNat_ofInt]
    have e1 : ((1 : Int) % ((2 ^ 64 : Nat) : Int)).toNat = 1 := by decide
    have e2 : ((2 ^ 64 : Nat) : Int) = 18446744073709551616 := by decide
    rw [e1, Nat.and_one_is_mod, e2, IntKind.wrap_i64]
    omega
  rw [key, Bool.eq_iff_iff]
  simp
  omega

theorem bcell {W w1 : World} (hb : Below W.heap.size W w1) : (∀ b o, b < W.heap.size → w1.cell? ⟨b, o, none⟩ = W.cell? ⟨b, o, none⟩) ∧ (∀ b o, b < W.heap.size → w1.frozen? ⟨b, o, none⟩ = W.frozen? ⟨b, o, none⟩) :=
  ⟨fun b o h => hb.cell (p := ⟨b, o, none⟩) h, fun b o h => hb.frozen (p := ⟨b, o, none⟩) h⟩
theorem below_via {a W w1 : World} (hb : Below W.heap.size W w1) (h : Below a.heap.size a W) : Below a.heap.size a w1 := h.trans (hb.mono h.size)
theorem below_al {a w : World} (h : Below a.heap.size a w) (o : Obj) : Below a.heap.size a (w.alloc o) := h.alloc h.size o
theorem below_sc {B : Nat} {a w : World} {p : Addr} (hp : B ≤ p.block) (h : Below B a w) (u : Value) : Below B a (w.setCell p u) := h.setCell hp u
theorem below_al2 {B : Nat} {a w : World} (hB : B ≤ w.heap.size) (h : Below B a w) (o : Obj) : Below B a (w.alloc o) := h.alloc hB o
theorem below_undrew {w w' : World} (h : Below w.drew.heap.size w.drew w') : Below w.heap.size w w' := ⟨h.os, h.tape, h.output, h.size, h.block⟩
theorem below_undrewN {w w' : World} {n : Nat} (h : Below (w.drewN n).heap.size (w.drewN n) w') : Below w.heap.size w w' := ⟨h.os, h.tape, h.output, h.size, h.block⟩
theorem below_box (w : World) (o : Obj) : Below w.heap.size w (w.alloc o) := (Below.refl _ _).alloc (Nat.le_refl _) _
theorem below_box_drewN (w : World) (o : Obj) (n : Nat) : Below w.heap.size w ((w.alloc o).drewN n) := below_drewN (below_box w o) n

/-- a whole number of 64 bits -/
def I64 (n : Int) : Prop := -9223372036854775808 ≤ n ∧ n ≤ 9223372036854775807
def U64 (n : Int) : Prop := 0 ≤ n ∧ n < 18446744073709551616

theorem cast_le_4096 (a : Nat) : ((a : Int) ≤ 4096) = (a ≤ 4096) := propext ⟨fun h => by omega, fun h => by omega⟩

set_option maxRecDepth 100000 in
set_option maxHeartbeats 400000 in
theorem sound_c (k n f : Int) (t : ByteArray) (w : World) (hn : I64 n) :
    Calls Tryd.prog 13 #[.agg #[.int .i64 k, .int .i64 n, .int .u64 f, .string t]] w fun e w' => e = .returned (.bool (soundV k n f t)) ∧ Below w.heap.size w w' := by
  have h1 := run_eqV
  have h2 := and_one_eq n hn.1 hn.2
  go_enter Tryd.func13, Tryd.ntmps13
  go_wp2_with fail
  any_goals (go_quiet ((go_at_call 28; exact Calls.quiet_of_same (plain_c _ _))))
  all_goals try go_wp2_with fail
  all_goals (clear h1; go_ret; refine ⟨?_, by first | exact below_box _ _ | exact below_box_drewN _ _ _⟩; congr 2; first | (simp [soundV, eqV, cast_le_4096, *]; done) | (simp [soundV, eqV, *, Bool.beq_comm (a := f), Bool.and_assoc, Bool.and_comm]; done) | (simp_all [soundV, eqV, cast_le_4096]; done) | skip)

set_option maxRecDepth 100000 in
set_option maxHeartbeats 400000 in
theorem must_t (e : Int) (w : World) : Calls Tryd.prog 65 #[.bool true, .int .i64 e] w fun e w' => e = .returned (.tuple #[]) ∧ w = w' := by
  go_enter Tryd.func65, Tryd.ntmps65
  go_wp2_with fail
  go_end0
  exact ⟨rfl, rfl⟩

/-- what a step gives up with -/
def flt (c : Int) : List PanicEntry := [{ v := .iface 82 (.agg #[.int .i64 c]), recovered := false }]

set_option maxRecDepth 100000 in
set_option maxHeartbeats 400000 in
theorem must_f (c : Int) (w : World) : Calls Tryd.prog 65 #[.bool false, .int .i64 c] w fun e w' => e = .panicked (flt c) ∧ w = w' := by
  go_enter Tryd.func65, Tryd.ntmps65
  go_wp2_with fail
  exact ⟨rfl, rfl, rfl⟩

def b2i (b : Bool) : Int := if b then 1 else 0

set_option maxRecDepth 100000 in
set_option maxHeartbeats 400000 in
theorem must_c (b : Bool) (c : Int) (w : World) : Calls Tryd.prog 65 #[.bool b, .int .i64 c] w fun e w' => (b = true ∧ e = .returned (.tuple #[]) ∨ b = false ∧ e = .panicked (flt c)) ∧ w = w' := by
  cases b
  · exact (must_f c w).mono fun e w' ⟨h1, h2⟩ => ⟨.inr ⟨rfl, h1⟩, h2⟩
  · exact (must_t c w).mono fun e w' ⟨h1, h2⟩ => ⟨.inl ⟨rfl, h1⟩, h2⟩

set_option maxRecDepth 100000 in
set_option maxHeartbeats 400000 in
theorem ofBool_c (b : Bool) (w : World) : Calls Tryd.prog 21 #[.bool b] w fun e w' => e = .returned (.agg #[.int .i64 1, .int .i64 (b2i b), .int .u64 0, .string ⟨#[]⟩]) ∧ Below w.heap.size w w' := by
  cases b
  all_goals
    go_enter Tryd.func21, Tryd.ntmps21
    go_wp2_with fail
    exact bodyPost_ret (v := .agg #[.int .i64 1, .int .i64 (b2i _), .int .u64 0, .string ⟨#[]⟩]) (by simp [results, Tryd.results21, go_sem]; rfl) rfl ⟨rfl, ((Below.refl _ _).alloc (Nat.le_refl _) _).alloc (by simp) _⟩

set_option maxRecDepth 100000 in
set_option maxHeartbeats 400000 in
theorem ofInt_c (n : Int) (w : World) : Calls Tryd.prog 19 #[.int .i64 n] w fun e w' => e = .returned (.agg #[.int .i64 2, .int .i64 n, .int .u64 0, .string ⟨#[]⟩]) ∧ Below w.heap.size w w' := by
  go_enter Tryd.func19, Tryd.ntmps19
  go_wp2_with fail
  exact bodyPost_ret (v := .agg #[.int .i64 2, .int .i64 n, .int .u64 0, .string ⟨#[]⟩]) (by simp [results, Tryd.results19, go_sem]) rfl ⟨rfl, below_box _ _⟩

set_option maxRecDepth 100000 in
set_option maxHeartbeats 400000 in
theorem ofFloat_c (b : Int) (w : World) : Calls Tryd.prog 17 #[.int .u64 b] w fun e w' => e = .returned (.agg #[.int .i64 3, .int .i64 0, .int .u64 (plainI b), .string ⟨#[]⟩]) ∧ Below w.heap.size w w' := by
  go_enter Tryd.func17, Tryd.ntmps17
  go_wp2_with (go_at_call 28; refine (plain_c _ _).mono ?_; rintro e w' ⟨rfl, rfl⟩)
  exact bodyPost_ret (v := .agg #[.int .i64 3, .int .i64 0, .int .u64 (plainI b), .string ⟨#[]⟩]) (by simp [results, Tryd.results17, go_sem]) rfl ⟨rfl, below_box _ _⟩

set_option maxRecDepth 100000 in
set_option maxHeartbeats 400000 in
theorem of_c (b : Nat) (w : World) : Calls Tryd.prog 72 #[.float .f64 b] w fun e w' => e = .returned (.agg #[.int .i64 3, .int .i64 0, .int .u64 (plainI b), .string ⟨#[]⟩]) ∧ Below w.heap.size w w' := by
  have h1 := run_tobits
  go_enter Tryd.func72, Tryd.ntmps72
  go_wp2_with (go_at_call 17; refine (ofFloat_c _ _).mono ?_; rintro e w' ⟨rfl, hb⟩; obtain ⟨hc, hf⟩ := bcell hb)
  exact bodyPost_ret (v := .agg #[.int .i64 3, .int .i64 0, .int .u64 (plainI b), .string ⟨#[]⟩]) (by simp [results, Tryd.results72, go_sem, hc]) rfl ⟨rfl, (by repeat (first | exact Below.refl _ _ | refine below_al ?_ _ | refine Below.setCell ?_ (by first | simp | (simp; omega) | omega) _ | refine below_drewN ?_ _ | refine below_via (by assumption) ?_))⟩

set_option maxRecDepth 100000 in
set_option maxHeartbeats 400000 in
theorem float_c (k n f : Int) (t : ByteArray) (w : World) : Calls Tryd.prog 39 #[.agg #[.int .i64 k, .int .i64 n, .int .u64 f, .string t]] w fun e w' => e = .returned (.float .f64 f.toNat) ∧ Below w.heap.size w w' := by
  have h1 := run_frombits
  go_enter Tryd.func39, Tryd.ntmps39
  go_wp2_with fail
  go_ret
  exact ⟨rfl, below_box _ _⟩

set_option maxRecDepth 100000 in
set_option maxHeartbeats 400000 in
theorem ofText_c (s : ByteArray) (w : World) : Calls Tryd.prog 11 #[.string s] w fun e w' => e = .returned (if s.size ≤ 4096 then .tuple #[.agg #[.int .i64 4, .int .i64 0, .int .u64 0, .string s], .int .i64 0] else .tuple #[.agg #[.int .i64 0, .int .i64 0, .int .u64 0, .string ⟨#[]⟩], .int .i64 12]) ∧ Below w.heap.size w w' := by
  by_cases h : s.size ≤ 4096
  · have h' : ¬ (4096 : Int) < (s.size : Int) := by omega
    rw [if_pos h]
    go_enter Tryd.func11, Tryd.ntmps11
    go_wp2_with fail
    exact bodyPost_ret (v := .tuple #[.agg #[.int .i64 4, .int .i64 0, .int .u64 0, .string s], .int .i64 0]) (by simp [results, Tryd.results11, go_sem]) rfl ⟨rfl, below_box _ _⟩
  · have h' : (4096 : Int) < (s.size : Int) := by omega
    rw [if_neg h]
    go_enter Tryd.func11, Tryd.ntmps11
    go_wp2_with fail
    exact bodyPost_ret (v := .tuple #[.agg #[.int .i64 0, .int .i64 0, .int .u64 0, .string ⟨#[]⟩], .int .i64 12]) (by simp [results, Tryd.results11, go_sem]) rfl ⟨rfl, below_box _ _⟩

end Go.Proofs.YtjnkkjeneomckaaDoor
