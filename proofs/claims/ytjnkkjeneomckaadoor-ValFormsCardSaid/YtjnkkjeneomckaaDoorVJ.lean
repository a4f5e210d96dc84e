/- The arguments as a row reads them; the world that a witness is called in. -/
import Derived.Test.YtjnkkjeneomckaaDoorV4
import Derived.Test.YtjnkkjeneomckaaDoorCards
import Derived.Test.YtjnkkjeneomckaaDoorTie
import Derived.WalkKit
import Derived.ProofKit
import Derived.OpenShut
import Derived.Lib.SmallJoins
import Derived.Deep.DeepHandedRow
import Derived.Lib.LaidTab
import Derived.LaidSub
namespace Go.Proofs.YtjnkkjeneomckaaDoor
set_option linter.unusedVariables false
set_option linter.unusedSimpArgs false
open Go.ChangeShapes Go.WideShapes Go.ChangeAt Go.RowKit Go.Joins

theorem ownKn : ownKnob Tryd.prog.godebug = none := by kernel_rfl
theorem gPow : Tryd.prog.globalNamed "internal/strconv.uint64pow10" = some 2 := by kernel_rfl

/-- what every row of this seat lists holds the powers of ten -/
theorem tab_of_laid {l : List (String × DataW Unit)} {W : World} (hl : l.filter (fun x => x.1 == "internal/strconv.uint64pow10") = [("internal/strconv.uint64pow10", Lib.tabData .u64 Lib.pow10Tab)]) (h : laidMetH Tryd.prog l W) : Tab W := by
  have h2 := laidMetH.filter (fun x => x.1 == "internal/strconv.uint64pow10") h
  rw [hl] at h2
  exact Lib.tabIs_of_head (rest := []) (t := 111) (e := 22) (n := 20) gPow (by kernel_rfl) (by kernel_rfl) (by kernel_rfl) (by kernel_rfl) (by kernel_rfl) h2

theorem cellsVal : Tryd.prog.cellsOf 24 = 4 := by kernel_rfl

set_option maxRecDepth 100000 in
/-- an argument that is a value of the language -/
theorem open_val {H : Type} {enc : TypeId × Value → H} {W : World} {r : Reach} {b0 base : Nat} {sp : Nat → Bool} {held : Bool} {v : Value} {d : DataW H} {p : List MemPlace}
    (hv : Value.okWide Tryd.prog W r b0 24 v) (h : DataW.Trod enc Tryd.prog W base sp held 24 v d p) :
    ∃ (k n f : Int) (t : ByteArray), v = .agg #[.int .i64 k, .int .i64 n, .int .u64 f, .string t] ∧ d = .agg [.lit (.int .i64 k), .lit (.int .i64 n), .lit (.int .u64 f), .lit (.string t.data.toList)] ∧ p = [] ∧
      (Lit.int .i64 k).wf = true ∧ (Lit.int .i64 n).wf = true ∧ (Lit.int .u64 f).wf = true ∧ t.size ≤ maxLen := by
  obtain ⟨c0, c1, c2, c3, y0, y1, y2, y3, m, rfl, rfl, rfl, hy0, hy1, hy2, hy3⟩ := open_agg4 Tryd.underlying24 (by kernel_rfl) cellsVal hv h
  obtain ⟨k, e0, rfl, w0⟩ := DataW.trod_int Tryd.underlying3 hy0
  obtain ⟨n, e1, rfl, w1⟩ := DataW.trod_int Tryd.underlying3 hy1
  obtain ⟨f, e2, rfl, w2⟩ := DataW.trod_int Tryd.underlying22 hy2
  obtain ⟨t, e3, rfl, w3⟩ := DataW.trod_string Tryd.underlying9 hy3
  simp at e0 e1 e2 e3; subst e0 e1 e2 e3
  exact ⟨k, n, f, t, rfl, rfl, rfl, w0, w1, w2, w3⟩

theorem shut_val {H : Type} {enc : TypeId × Value → H} {W : World} {base : Nat} {sp : Nat → Bool} {held : Bool} {k n f : Int} {t : ByteArray}
    (w0 : (Lit.int .i64 k).wf = true) (w1 : (Lit.int .i64 n).wf = true) (w2 : (Lit.int .u64 f).wf = true) (w3 : t.size ≤ maxLen) :
    DataW.Trod enc Tryd.prog W base sp held 24 (.agg #[.int .i64 k, .int .i64 n, .int .u64 f, .string t]) (.agg [.lit (.int .i64 k), .lit (.int .i64 n), .lit (.int .u64 f), .lit (.string t.data.toList)]) [] :=
  shut_agg4 (y0 := (.lit (.int .i64 k), [])) (y1 := (.lit (.int .i64 n), [])) (y2 := (.lit (.int .u64 f), [])) (y3 := (.lit (.string t.data.toList), [])) Tryd.underlying24 (by kernel_rfl) cellsVal
    ⟨1, by simp [DataW.trod, Tryd.underlying3, w0]⟩ ⟨1, by simp [DataW.trod, Tryd.underlying3, w1]⟩ ⟨1, by simp [DataW.trod, Tryd.underlying22, w2]⟩ ⟨1, by simp [DataW.trod, Tryd.underlying9, w3]⟩

theorem i64_of_wf {n : Int} (h : (Lit.int .i64 n).wf = true) : I64 n := by
  simp only [Lit.wf, Bool.and_eq_true, decide_eq_true_eq] at h; exact h

def u8s (l : List Int) : Array Value := (l.map fun n => Value.int .u8 n).toArray
def layOne (h : Array Obj) (b : Nat) (cs : Array Value) : Array Obj := h.modify b fun
  | .cells _ t frozen => .cells cs t frozen
  | o => o
/-- A world for a witness: the settled one, the tables holding what their initialisers lay. -/
noncomputable def laidWorld (os : Os) : World :=
  { World.holding Tryd.prog os ⟨#[], #[], []⟩ with heap := (layOne (layOne (layOne (World.holding Tryd.prog os ⟨#[], #[], []⟩).heap 2 ((Lib.pow10Tab.map fun z => Value.int .u64 z).toArray))
    3 (u8s [0, 1, 28, 2, 29, 14, 24, 3, 30, 22, 20, 15, 25, 17, 4, 8, 31, 27, 13, 23, 21, 19, 16, 7, 26, 12, 18, 6, 11, 5, 10, 9]))
    4 (u8s [0, 1, 56, 2, 57, 49, 28, 3, 61, 58, 42, 50, 38, 29, 17, 4, 62, 47, 59, 36, 45, 43, 51, 22, 53, 39, 33, 30, 24, 18, 12, 5, 63, 55, 48, 27, 60, 41, 37, 16, 46, 35, 44, 21, 52, 32, 23, 11, 54, 26, 40, 15, 34, 20, 31, 10, 25, 14, 19, 9, 13, 8, 7, 6])) }

end Go.Proofs.YtjnkkjeneomckaaDoor
