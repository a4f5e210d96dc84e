/- The arguments as a row reads them; the world that a witness is called in. An argument of two whole numbers. The row and the card of 'ValSteps'. -/
import Derived.Test.YtjnkkjeneomckaaGreatDoorM1
import Derived.Test.YtjnkkjeneomckaaGreatDoorCards
import Derived.Test.YtjnkkjeneomckaaGreatDoorTie
import Derived.WalkKit
import Derived.ProofKit
import Derived.OpenShut
import Derived.Lib.SmallJoins
import Derived.Deep.DeepHandedRow
import Derived.Lib.LaidTab
import Derived.LaidSub
import Derived.Test.YtjnkkjeneomckaaGreatDoorM7
namespace Go.Proofs.YtjnkkjeneomckaaGreatDoor
set_option linter.unusedVariables false
set_option linter.unusedSimpArgs false
open Go.ChangeShapes Go.WideShapes Go.ChangeAt Go.RowKit Go.Joins

theorem ownKn : ownKnob Tryz.prog.godebug = none := by kernel_rfl
theorem gPow : Tryz.prog.globalNamed "internal/strconv.uint64pow10" = some 2 := by kernel_rfl

/-- what every row of this seat lists holds the powers of ten -/
theorem tab_of_laid {l : List (String × DataW Unit)} {W : World} (hl : l.filter (fun x => x.1 == "internal/strconv.uint64pow10") = [("internal/strconv.uint64pow10", Lib.tabData .u64 Lib.pow10Tab)]) (h : laidMetH Tryz.prog l W) : Tab W := by
  have h2 := laidMetH.filter (fun x => x.1 == "internal/strconv.uint64pow10") h
  rw [hl] at h2
  exact Lib.tabIs_of_head (rest := []) (t := 110) (e := 23) (n := 20) gPow (by kernel_rfl) (by kernel_rfl) (by kernel_rfl) (by kernel_rfl) (by kernel_rfl) h2

theorem cellsVal : Tryz.prog.cellsOf 25 = 4 := by kernel_rfl

set_option maxRecDepth 100000 in
/-- an argument that is a value of the language -/
theorem open_val {H : Type} {enc : TypeId × Value → H} {W : World} {r : Reach} {b0 base : Nat} {sp : Nat → Bool} {held : Bool} {v : Value} {d : DataW H} {p : List MemPlace}
    (hv : Value.okWide Tryz.prog W r b0 25 v) (h : DataW.Trod enc Tryz.prog W base sp held 25 v d p) :
    ∃ (k n f : Int) (t : ByteArray), v = .agg #[.int .i64 k, .int .i64 n, .int .u64 f, .string t] ∧ d = .agg [.lit (.int .i64 k), .lit (.int .i64 n), .lit (.int .u64 f), .lit (.string t.data.toList)] ∧ p = [] ∧
      (Lit.int .i64 k).wf = true ∧ (Lit.int .i64 n).wf = true ∧ (Lit.int .u64 f).wf = true ∧ t.size ≤ maxLen := by
  obtain ⟨c0, c1, c2, c3, y0, y1, y2, y3, m, rfl, rfl, rfl, hy0, hy1, hy2, hy3⟩ := open_agg4 Tryz.underlying25 (by kernel_rfl) cellsVal hv h
  obtain ⟨k, e0, rfl, w0⟩ := DataW.trod_int Tryz.underlying3 hy0
  obtain ⟨n, e1, rfl, w1⟩ := DataW.trod_int Tryz.underlying3 hy1
  obtain ⟨f, e2, rfl, w2⟩ := DataW.trod_int Tryz.underlying23 hy2
  obtain ⟨t, e3, rfl, w3⟩ := DataW.trod_string Tryz.underlying9 hy3
  simp at e0 e1 e2 e3; subst e0 e1 e2 e3
  exact ⟨k, n, f, t, rfl, rfl, rfl, w0, w1, w2, w3⟩

theorem shut_val {H : Type} {enc : TypeId × Value → H} {W : World} {base : Nat} {sp : Nat → Bool} {held : Bool} {k n f : Int} {t : ByteArray}
    (w0 : (Lit.int .i64 k).wf = true) (w1 : (Lit.int .i64 n).wf = true) (w2 : (Lit.int .u64 f).wf = true) (w3 : t.size ≤ maxLen) :
    DataW.Trod enc Tryz.prog W base sp held 25 (.agg #[.int .i64 k, .int .i64 n, .int .u64 f, .string t]) (.agg [.lit (.int .i64 k), .lit (.int .i64 n), .lit (.int .u64 f), .lit (.string t.data.toList)]) [] :=
  shut_agg4 (y0 := (.lit (.int .i64 k), [])) (y1 := (.lit (.int .i64 n), [])) (y2 := (.lit (.int .u64 f), [])) (y3 := (.lit (.string t.data.toList), [])) Tryz.underlying25 (by kernel_rfl) cellsVal
    ⟨1, by simp [DataW.trod, Tryz.underlying3, w0]⟩ ⟨1, by simp [DataW.trod, Tryz.underlying3, w1]⟩ ⟨1, by simp [DataW.trod, Tryz.underlying23, w2]⟩ ⟨1, by simp [DataW.trod, Tryz.underlying9, w3]⟩

theorem i64_of_wf {n : Int} (h : (Lit.int .i64 n).wf = true) : I64 n := by
  simp only [Lit.wf, Bool.and_eq_true, decide_eq_true_eq] at h; exact h

def u8s (l : List Int) : Array Value := (l.map fun n => Value.int .u8 n).toArray
def layOne (h : Array Obj) (b : Nat) (cs : Array Value) : Array Obj := h.modify b fun
  | .cells _ t frozen => .cells cs t frozen
  | o => o
/-- A world for a witness: the settled one, the tables holding what their initialisers lay. -/
noncomputable def laidWorld (os : Os) : World :=
  { World.holding Tryz.prog os ⟨#[], #[], []⟩ with heap := (layOne (layOne (layOne (World.holding Tryz.prog os ⟨#[], #[], []⟩).heap 2 ((Lib.pow10Tab.map fun z => Value.int .u64 z).toArray))
    3 (u8s [0, 1, 28, 2, 29, 14, 24, 3, 30, 22, 20, 15, 25, 17, 4, 8, 31, 27, 13, 23, 21, 19, 16, 7, 26, 12, 18, 6, 11, 5, 10, 9]))
    4 (u8s [0, 1, 56, 2, 57, 49, 28, 3, 61, 58, 42, 50, 38, 29, 17, 4, 62, 47, 59, 36, 45, 43, 51, 22, 53, 39, 33, 30, 24, 18, 12, 5, 63, 55, 48, 27, 60, 41, 37, 16, 46, 35, 44, 21, 52, 32, 23, 11, 54, 26, 40, 15, 34, 20, 31, 10, 25, 14, 19, 9, 13, 8, 7, 6])) }

end Go.Proofs.YtjnkkjeneomckaaGreatDoor

namespace Go.Proofs.YtjnkkjeneomckaaGreatDoor
set_option linter.unusedVariables false
set_option linter.unusedSimpArgs false
open Go.ChangeShapes Go.WideShapes Go.ChangeAt Go.RowKit Go.Joins

theorem cellsTwo : Tryz.prog.cellsOf 22 = 2 := by kernel_rfl
theorem cellsInt : Tryz.prog.cellsOf 3 = 1 := by kernel_rfl
theorem array2 {α : Type} {cs : Array α} (h : cs.size = 2) : ∃ c0 c1, cs = #[c0, c1] := by
  obtain ⟨l⟩ := cs
  match l, h with
  | [c0, c1], _ => exact ⟨c0, c1, rfl⟩

set_option maxRecDepth 100000 in
theorem open_two {H : Type} {enc : TypeId × Value → H} {W : World} {r : Reach} {b0 base : Nat} {sp : Nat → Bool} {held : Bool} {v : Value} {d : DataW H} {p : List MemPlace}
    (hv : Value.okWide Tryz.prog W r b0 22 v) (h : DataW.Trod enc Tryz.prog W base sp held 22 v d p) :
    ∃ (a b : Int), v = .agg #[.int .i64 a, .int .i64 b] ∧ d = .agg [.lit (.int .i64 a), .lit (.int .i64 b)] ∧ p = [] ∧ (Lit.int .i64 a).wf = true ∧ (Lit.int .i64 b).wf = true := by
  have hcs : ∃ cs, v = .agg cs ∧ cs.size = Tryz.prog.cellsOf 22 := by
    simp only [Value.okWide, Tryz.underlying22] at hv
    obtain ⟨cs, h1, h2, _⟩ := hv
    exact ⟨cs, h1, h2⟩
  obtain ⟨cs, rfl, hsz⟩ := hcs
  obtain ⟨c0, c1, rfl⟩ := array2 (hsz.trans cellsTwo)
  obtain ⟨fuel, hf⟩ := h
  cases fuel with
  | zero => simp [DataW.trod] at hf
  | succ fuel =>
    simp only [DataW.trod, Tryz.underlying22, cellsInt, cellsTwo, Value.cells] at hf
    simp only [List.length_cons, List.length_nil, if_true, List.range, List.range.loop, List.mapM_cons, List.mapM_nil, Option.map_eq_some_iff, Option.bind_eq_bind, Option.bind_eq_some_iff, Option.pure_def, Option.some.injEq, List.drop, List.take, Nat.zero_mul, Nat.one_mul] at hf
    obtain ⟨xs, ⟨x0, hx0, ys, ⟨x1, hx1, zs, rfl, rfl⟩, rfl⟩, hd⟩ := hf
    obtain ⟨a, e0, rfl, w0⟩ := DataW.trod_int Tryz.underlying3 hx0
    obtain ⟨b, e1, rfl, w1⟩ := DataW.trod_int Tryz.underlying3 hx1
    simp at e0 e1; subst e0 e1
    simp at hd
    obtain ⟨rfl, rfl⟩ := hd
    exact ⟨a, b, rfl, rfl, rfl, w0, w1⟩

set_option maxRecDepth 100000 in
theorem shut_two {H : Type} {enc : TypeId × Value → H} {W : World} {base : Nat} {sp : Nat → Bool} {held : Bool} {a b : Int} (w0 : (Lit.int .i64 a).wf = true) (w1 : (Lit.int .i64 b).wf = true) :
    DataW.Trod enc Tryz.prog W base sp held 22 (.agg #[.int .i64 a, .int .i64 b]) (.agg [.lit (.int .i64 a), .lit (.int .i64 b)]) [] := by
  refine ⟨2, ?_⟩
  simp only [DataW.trod, Tryz.underlying22, cellsInt, cellsTwo, Value.cells, Tryz.underlying3]
  simp [List.range, List.range.loop, w0, w1]

end Go.Proofs.YtjnkkjeneomckaaGreatDoor

namespace Go.Proofs.YtjnkkjeneomckaaGreatDoor.valSteps
set_option linter.unusedVariables false
set_option linter.unusedSimpArgs false
open Go.ChangeShapes Go.WideShapes Go.ChangeAt Go.RowKit Go.Joins
set_option linter.unusedVariables false

set_option maxRecDepth 100000 in
theorem contract (H : Type) (enc : TypeId × Value → H) (W : World) (base : Nat) (args : Array Value) (ds gs : List (DataW H)) (before : List MemPlace)
    (hval : ∀ (j : Nat) t v, Tryz.f3.params[j]? = some t → args[j]? = some v → Value.okWide Tryz.prog W .any base t v)
    (hW : DataW.Whole enc Tryz.prog Tryz.f3.params.toList Rows.valStepsSpec.vars false W args.toList ds gs before) (hL : laidMetH Tryz.prog Rows.valStepsRow.laid W) :
    Calls Tryz.prog 3 args W fun e W' => ∃ v, e = .returned v ∧ Rows.valStepsSpec.post enc Tryz.prog Tryz.f3 false true false false W args v W' := by
  have hT : Tab W := tab_of_laid (by rfl) hL
  have hW' := hW
  obtain ⟨p, q, hA0, hV, rfl, hfz, hnd⟩ := hW
  have hA : DataW.TrodAll enc Tryz.prog W 0 (fun _ => true) true Tryz.f3.params.toList args.toList ds p := hA0
  rw [Tryz.params3] at hA hval
  obtain ⟨v0, vs0, d0, ds0, p0, q0, hargs, rfl, rfl, h0, r0⟩ := trodAll_cons hA
  obtain ⟨v1, vs1, d1, ds1, p1, q1, rfl, rfl, rfl, h1, r1⟩ := trodAll_cons r0
  obtain ⟨v2, vs2, d2, ds2, p2, q2, rfl, rfl, rfl, h2, r2⟩ := trodAll_cons r1
  obtain ⟨rfl, rfl, rfl⟩ := trodAll_nil r2
  obtain rfl : args = #[v0, v1, v2] := by cases args; simp_all
  obtain ⟨rfl, rfl⟩ := trodVars_none hV
  obtain ⟨a0, b0, rfl, rfl, rfl, w0, x0⟩ := open_two (hval 0 22 v0 rfl rfl) h0
  obtain ⟨k1, n1, f1, t1, rfl, rfl, rfl, wk1, wn1, wf1, wt1⟩ := open_val (hval 1 25 v1 rfl rfl) h1
  obtain ⟨k2, n2, f2, t2, rfl, rfl, rfl, wk2, wn2, wf2, wt2⟩ := open_val (hval 2 25 v2 rfl rfl) h2
  clear hA0
  simp only [List.append_nil] at hW'
  refine (walkValSteps a0 b0 k1 n1 f1 t1 k2 n2 f2 t2 w0 x0 wk1 wn1 wf1 wt1 wk2 wn2 wf2 wt2 W hT).mono fun e W' ⟨he, hg⟩ => ?_
  subst he
  exact ⟨_, rfl, _, _, _, [], _, [], hW', trodAll_mk1 (shut_bool Tryz.underlying4 _), (trodAll_cons_mk (shut_two w0 x0) (trodAll_cons_mk (shut_val wk1 wn1 wf1 wt1) (trodAll_cons_mk (shut_val wk2 wn2 wf2 wt2) trodAll_mk0))), rfl, hg.frame _, fun h => by cases h⟩

theorem laid_met (os : Os) : laidMet Tryz.prog Rows.valStepsRow.laid ((laidWorld os).forCall (fun _ _ => 0) ⟨#[], #[.agg #[.int .i64 0, .int .i64 0], .agg #[.int .i64 0, .int .i64 0, .int .u64 0, .string ⟨#[]⟩], .agg #[.int .i64 0, .int .i64 0, .int .u64 0, .string ⟨#[]⟩]], []⟩).memory :=
  laidMet_of_run' 8 (by kernel_rfl) (by kernel_rfl)
theorem reads (os : Os) {H : Type} (enc : TypeId × Value → H) : ∃ places, DataW.whole enc Tryz.prog ((laidWorld os).forCall (fun _ _ => 0) ⟨#[], #[.agg #[.int .i64 0, .int .i64 0], .agg #[.int .i64 0, .int .i64 0, .int .u64 0, .string ⟨#[]⟩], .agg #[.int .i64 0, .int .i64 0, .int .u64 0, .string ⟨#[]⟩]], []⟩).memory Tryz.f3.params.toList Rows.valStepsSpec.vars false #[(.agg #[.int .i64 0, .int .i64 0] : Value), .agg #[.int .i64 0, .int .i64 0, .int .u64 0, .string ⟨#[]⟩], .agg #[.int .i64 0, .int .i64 0, .int .u64 0, .string ⟨#[]⟩]].toList 8 = some ([.agg [.lit (.int .i64 0), .lit (.int .i64 0)], .agg [.lit (.int .i64 0), .lit (.int .i64 0), .lit (.int .u64 0), .lit (.string [])], .agg [.lit (.int .i64 0), .lit (.int .i64 0), .lit (.int .u64 0), .lit (.string [])]], [], places) :=
  ⟨[], by kernel_rfl⟩

set_option maxRecDepth 100000 in
theorem lifted (os : Os) (started : os.Started) (H : Type) (enc : TypeId × Value → H) (F : Stop.Interp) :
    ReturnsInHanded {} Tryz.checked os 3 .any ((OpenSpec.ofChange Rows.valStepsSpec).preRow enc Tryz.prog Tryz.f3 Rows.valStepsRow.domain false Rows.valStepsRow.laid) (((OpenSpec.ofChange Rows.valStepsSpec).at F).post enc Tryz.prog Tryz.f3 false true false false) := by
  obtain ⟨places, hx⟩ := reads os enc
  refine returnsInHanded_of_row (C := Tryz.checked) (s := (OpenSpec.ofChange Rows.valStepsSpec)) ownKn started (by kernel_rfl) Tryz.func3
    (witness_row_at (enc := enc) (C := Tryz.checked) false (laidWorld os) #[.agg #[.int .i64 0, .int .i64 0], .agg #[.int .i64 0, .int .i64 0, .int .u64 0, .string ⟨#[]⟩], .agg #[.int .i64 0, .int .i64 0, .int .u64 0, .string ⟨#[]⟩]] rfl (by kernel_rfl) (by kernel_rfl) (by kernel_rfl)
      (OpenSpec.preRow_of_cond 8 hx (by kernel_rfl) (fun k hk => by cases hk) (by kernel_rfl) (laid_met os))) ?_
  intro W base args ds gs before hval hW _ _ _ hL _ _
  exact contract H enc W base args ds gs before hval hW hL

theorem said : Rows.ValStepsSaid :=
  OpenClaim.holds_of_cond 3 Tryz.f3 rfl rfl rfl rfl rfl rfl rfl ⟨rfl, rfl, rfl, rfl, rfl⟩ rfl rfl rfl rfl rfl (by kernel_rfl) Tryz.func3 (by kernel_rfl)
    (of_decide_eq_true (by kernel_rfl)) (by unfold Func.isWrapper; first | (rw [if_pos (by decide +kernel)]; kernel_rfl) | (rw [if_neg (by decide +kernel)]; exact ⟨rfl, rfl⟩))
    (fun os started H enc _ F => by rw [OpenClaim.pre_eq_preRow]; exact lifted os started H enc F)

theorem plain (f : FuncId) (fn : Func) (hf : Tryz.pinned.checked.prog.funcNamed "freshet/freshetlaw01.ValSteps" = some f) (hfn : Tryz.pinned.checked.prog.funcs[f]? = some fn) :
    true = Tryz.pinned.checked.prog.looks [] ∧ ∀ (j : Nat) t, fn.params[j]? = some t → Tryz.pinned.checked.prog.wantsStandIn t = false := by
  obtain rfl : f = 3 := Option.some.inj ((show Tryz.prog.funcNamed "freshet/freshetlaw01.ValSteps" = some 3 by kernel_rfl).symm.trans hf) |>.symm
  obtain rfl : fn = Tryz.f3 := (Option.some.inj (Tryz.func3.symm.trans hfn)).symm
  refine ⟨by kernel_rfl, fun j t ht => ?_⟩
  rw [Tryz.params3] at ht
  have hm := Array.mem_of_getElem? ht
  have all : ∀ t ∈ (#[22, 25, 25] : Array Nat), Tryz.prog.wantsStandIn t = false := by decide +kernel
  exact all t hm

/-- ████ THE CARD ████ -/
theorem card : Rows.ValStepsCardSaid :=
  Claim7.holds_tied_plain_at .later [] _ _ _ _ said (fun _ h => by cases h) (by kernel_rfl) (fun _ h => by cases h) valSteps_row_tie rfl ⟨rfl, rfl⟩ (by kernel_rfl) rfl plain (by kernel_rfl)
#print axioms card
end Go.Proofs.YtjnkkjeneomckaaGreatDoor.valSteps
