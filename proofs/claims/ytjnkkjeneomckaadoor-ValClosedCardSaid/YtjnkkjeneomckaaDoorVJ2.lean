/- An argument of two values. -/
import Derived.Test.YtjnkkjeneomckaaDoorVJ
namespace Go.Proofs.YtjnkkjeneomckaaDoor
set_option linter.unusedVariables false
set_option linter.unusedSimpArgs false
open Go.ChangeShapes Go.WideShapes Go.ChangeAt Go.RowKit Go.Joins

theorem cellsPair : Tryd.prog.cellsOf 38 = 8 := by kernel_rfl
theorem array8 {α : Type} {cs : Array α} (h : cs.size = 8) : ∃ c0 c1 c2 c3 c4 c5 c6 c7, cs = #[c0, c1, c2, c3, c4, c5, c6, c7] := by
  obtain ⟨l⟩ := cs
  match l, h with
  | [c0, c1, c2, c3, c4, c5, c6, c7], _ => exact ⟨c0, c1, c2, c3, c4, c5, c6, c7, rfl⟩

set_option maxRecDepth 100000 in
theorem val_of_trod {H : Type} {enc : TypeId × Value → H} {W : World} {base : Nat} {sp : Nat → Bool} {held : Bool} {fuel : Nat} {c0 c1 c2 c3 : Value} {x : DataW H × List MemPlace}
    (h : DataW.trod enc Tryd.prog W base sp held fuel 24 [c0, c1, c2, c3] = some x) :
    ∃ (k n f : Int) (t : ByteArray), c0 = .int .i64 k ∧ c1 = .int .i64 n ∧ c2 = .int .u64 f ∧ c3 = .string t ∧ x = (.agg [.lit (.int .i64 k), .lit (.int .i64 n), .lit (.int .u64 f), .lit (.string t.data.toList)], []) ∧
      (Lit.int .i64 k).wf = true ∧ (Lit.int .i64 n).wf = true ∧ (Lit.int .u64 f).wf = true ∧ t.size ≤ maxLen := by
  obtain ⟨y0, y1, y2, y3, m, rfl, hl, h0, h1, h2, h3⟩ := trod_struct4 Tryd.underlying24 h
  have hy0 : DataW.trod enc Tryd.prog W base sp held m 3 [c0] = some y0 := h0
  have hy1 : DataW.trod enc Tryd.prog W base sp held m 3 [c1] = some y1 := h1
  have hy2 : DataW.trod enc Tryd.prog W base sp held m 22 [c2] = some y2 := h2
  have hy3 : DataW.trod enc Tryd.prog W base sp held m 9 [c3] = some y3 := h3
  obtain ⟨k, e0, rfl, w0⟩ := DataW.trod_int Tryd.underlying3 hy0
  obtain ⟨n, e1, rfl, w1⟩ := DataW.trod_int Tryd.underlying3 hy1
  obtain ⟨f, e2, rfl, w2⟩ := DataW.trod_int Tryd.underlying22 hy2
  obtain ⟨t, e3, rfl, w3⟩ := DataW.trod_string Tryd.underlying9 hy3
  simp at e0 e1 e2 e3; subst e0 e1 e2 e3
  exact ⟨k, n, f, t, rfl, rfl, rfl, rfl, rfl, w0, w1, w2, w3⟩

set_option maxRecDepth 100000 in
theorem open_pair {H : Type} {enc : TypeId × Value → H} {W : World} {r : Reach} {b0 base : Nat} {sp : Nat → Bool} {held : Bool} {v : Value} {d : DataW H} {p : List MemPlace}
    (hv : Value.okWide Tryd.prog W r b0 38 v) (h : DataW.Trod enc Tryd.prog W base sp held 38 v d p) :
    ∃ (k n f : Int) (t : ByteArray) (k' n' f' : Int) (t' : ByteArray), v = .agg #[.int .i64 k, .int .i64 n, .int .u64 f, .string t, .int .i64 k', .int .i64 n', .int .u64 f', .string t'] ∧
      d = .agg [.agg [.lit (.int .i64 k), .lit (.int .i64 n), .lit (.int .u64 f), .lit (.string t.data.toList)], .agg [.lit (.int .i64 k'), .lit (.int .i64 n'), .lit (.int .u64 f'), .lit (.string t'.data.toList)]] ∧ p = [] ∧
      (Lit.int .i64 k).wf = true ∧ (Lit.int .i64 n).wf = true ∧ (Lit.int .u64 f).wf = true ∧ t.size ≤ maxLen ∧ (Lit.int .i64 k').wf = true ∧ (Lit.int .i64 n').wf = true ∧ (Lit.int .u64 f').wf = true ∧ t'.size ≤ maxLen := by
  have hcs : ∃ cs, v = .agg cs ∧ cs.size = Tryd.prog.cellsOf 38 := by
    simp only [Value.okWide, Tryd.underlying38] at hv
    obtain ⟨cs, h1, h2, _⟩ := hv
    exact ⟨cs, h1, h2⟩
  obtain ⟨cs, rfl, hsz⟩ := hcs
  obtain ⟨c0, c1, c2, c3, c4, c5, c6, c7, rfl⟩ := array8 (hsz.trans cellsPair)
  obtain ⟨fuel, hf⟩ := h
  cases fuel with
  | zero => simp [DataW.trod] at hf
  | succ fuel =>
    simp only [DataW.trod, Tryd.underlying38, cellsVal, cellsPair, Value.cells] at hf
    simp only [List.length_cons, List.length_nil, if_true, List.range, List.range.loop, List.mapM_cons, List.mapM_nil, Option.map_eq_some_iff, Option.bind_eq_bind, Option.bind_eq_some_iff, Option.pure_def, Option.some.injEq, List.drop, List.take, Nat.zero_mul, Nat.one_mul] at hf
    obtain ⟨xs, ⟨x0, hx0, ys, ⟨x1, hx1, zs, rfl, rfl⟩, rfl⟩, hd⟩ := hf
    obtain ⟨k, n, f, t, rfl, rfl, rfl, rfl, rfl, w0, w1, w2, w3⟩ := val_of_trod hx0
    obtain ⟨k', n', f', t', rfl, rfl, rfl, rfl, rfl, w0', w1', w2', w3'⟩ := val_of_trod hx1
    simp at hd
    obtain ⟨rfl, rfl⟩ := hd
    exact ⟨k, n, f, t, k', n', f', t', rfl, rfl, rfl, w0, w1, w2, w3, w0', w1', w2', w3'⟩

set_option maxRecDepth 100000 in
theorem shut_pair {H : Type} {enc : TypeId × Value → H} {W : World} {base : Nat} {sp : Nat → Bool} {held : Bool} {k n f : Int} {t : ByteArray} {k' n' f' : Int} {t' : ByteArray}
    (w0 : (Lit.int .i64 k).wf = true) (w1 : (Lit.int .i64 n).wf = true) (w2 : (Lit.int .u64 f).wf = true) (w3 : t.size ≤ maxLen) (w0' : (Lit.int .i64 k').wf = true) (w1' : (Lit.int .i64 n').wf = true) (w2' : (Lit.int .u64 f').wf = true) (w3' : t'.size ≤ maxLen) :
    DataW.Trod enc Tryd.prog W base sp held 38 (.agg #[.int .i64 k, .int .i64 n, .int .u64 f, .string t, .int .i64 k', .int .i64 n', .int .u64 f', .string t'])
      (.agg [.agg [.lit (.int .i64 k), .lit (.int .i64 n), .lit (.int .u64 f), .lit (.string t.data.toList)], .agg [.lit (.int .i64 k'), .lit (.int .i64 n'), .lit (.int .u64 f'), .lit (.string t'.data.toList)]]) [] := by
  have h1 : DataW.Trod enc Tryd.prog W base sp held 24 _ _ [] := shut_val w0 w1 w2 w3
  have h2 : DataW.Trod enc Tryd.prog W base sp held 24 _ _ [] := shut_val w0' w1' w2' w3'
  obtain ⟨f1, e1⟩ := h1
  obtain ⟨f2, e2⟩ := h2
  have g1 := DataW.trod_le (show f1 ≤ f1 + f2 by omega) e1
  have g2 := DataW.trod_le (show f2 ≤ f1 + f2 by omega) e2
  refine ⟨f1 + f2 + 1, ?_⟩
  simp only [Value.cells] at g1 g2
  simp only [DataW.trod, Tryd.underlying38, cellsVal, cellsPair, Value.cells]
  simp only [List.length_cons, List.length_nil, if_true, List.range, List.range.loop, List.mapM_cons, List.mapM_nil, Option.bind_eq_bind, Option.pure_def, List.drop, List.take, Nat.zero_mul, Nat.one_mul, g1, g2]
  simp

end Go.Proofs.YtjnkkjeneomckaaDoor
