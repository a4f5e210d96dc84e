/- What every row of this seat lists holds the tables that row reads; a row of values as argument, opened; the witness's world. -/
import Derived.Test.YthpkjkcfhipjhaaGreatDoorXR
import Derived.Test.YthpkjkcfhipjhaaGreatDoorCards
import Derived.Test.YthpkjkcfhipjhaaGreatDoorTie
import Derived.WalkKit
import Derived.ProofKit
import Derived.OpenShut
import Derived.SizedLaws
import Derived.Lib.SmallJoins
import Derived.Deep.DeepHandedRow
import Derived.Deep.DeepWitnessRef
import Derived.Deep.Strs
import Derived.Deep.Slices
import Derived.ChangeOld
import Derived.Carry
import Derived.Lib.LaidTab
import Derived.LaidSub
import Derived.Lay
import Derived.ShutString
namespace Go.Proofs.YthpkjkcfhipjhaaGreatDoor
set_option linter.unusedVariables false
set_option linter.unusedSimpArgs false
open Go.ChangeShapes Go.WideShapes Go.ChangeAt Go.RowKit Go.Joins Go.Deep Go.Proofs.YthpkjkcfhipjhaaGreatDoorW.PrintWords PRW

theorem laidOut : laidOutB Tryz.prog = true := by kernel_rfl
theorem ownKn : ownKnob Tryz.prog.godebug = none := by kernel_rfl
theorem gPow : Tryz.prog.globalNamed "internal/strconv.uint64pow10" = some 2 := by kernel_rfl

theorem tab_of_laid {l : List (String × DataW Unit)} {W : World} (hl : l.filter (fun x => x.1 == "internal/strconv.uint64pow10") = [("internal/strconv.uint64pow10", Lib.tabData .u64 Lib.pow10Tab)]) (hd : l.filter (fun x => x.1 == "math/bits.deBruijn64tab") = [("math/bits.deBruijn64tab", Lib.tabData .u8 dB64)])
    (h : laidMetH Tryz.prog l W) (hs : W.ShapedOpen Tryz.prog) : RTab W := by
  have h2 := laidMetH.filter (fun x => x.1 == "internal/strconv.uint64pow10") h
  rw [hl] at h2
  have h3 := laidMetH.filter (fun x => x.1 == "math/bits.deBruijn64tab") h
  rw [hd] at h3
  exact ⟨Lib.tabIs_of_head (rest := []) (t := 154) (e := 56) (n := 20) gPow (by kernel_rfl) (by kernel_rfl) (by kernel_rfl) (by kernel_rfl) (by kernel_rfl) h2,
    Lib.tabIs_of_head (rest := []) (t := 164) (e := 5) (n := 64) gDB (by kernel_rfl) (by kernel_rfl) (by kernel_rfl) (by kernel_rfl) (by kernel_rfl) h3, Tryz.laysM143.s1_3 W hs⟩

section
variable {H : Type} {enc : TypeId × Value → H}
theorem witness_zip {C : Checked} {os : Os} {f : FuncId} {fn : Func} {s : OpenSpec} {conds : List PathCond} {apart : Bool} {laid : List (String × DataW Unit)} (w0 : World) (args : Array Value) (hos : w0.os = os)
    (hv : (w0.forCall (fun _ _ => 0) ⟨#[], args, []⟩).variablesZipB C.prog = true)
    (hr : ((w0.forCall (fun _ _ => 0) ⟨#[], args, []⟩).heap.toList.drop C.prog.globals.size).take ((begin C.prog (fun _ _ => 0) default).world.heap.size - C.prog.globals.size) =
      (begin C.prog (fun _ _ => 0) default).world.heap.toList.drop C.prog.globals.size)
    (hok : Input.okWideB C.prog (w0.forCall (fun _ _ => 0) ⟨#[], args, []⟩) f ⟨#[], args, []⟩ = true)
    (hrow : s.preRow enc C.prog fn conds apart laid (w0.forCall (fun _ _ => 0) ⟨#[], args, []⟩).memory args) :
    ∃ (w : World) (tape : Tape) (i : Input), w.os = os ∧ (w.forCall tape i).Shaped C.prog ∧ i.vars = [] ∧ Input.okWide C.prog (w.forCall tape i) .any w.heap.size f i ∧
      s.preRow enc C.prog fn conds apart laid (w.forCall tape i).memory i.args ∧ ({ modest := false } : Assume).holds C.prog (lone (Frame.enter C.prog f i.args .normal) [] (w.forCall tape i)) :=
  ⟨w0, fun _ _ => 0, ⟨#[], args, []⟩, hos, World.shaped_of_ZipB hv hr, (Input.okWide_of_okWideB (base := 0) hok).1, (Input.okWide_of_okWideB hok).2, hrow, by simp [Assume.holds]⟩

theorem i64_of_wf {n : Int} (h : (Lit.int .i64 n).wf = true) : I64 n := by
  simp only [Lit.wf, Bool.and_eq_true, decide_eq_true_eq] at h; exact h
theorem u64_of_wf {n : Int} (h : (Lit.int .u64 n).wf = true) : U64 n := by
  simp only [Lit.wf, Bool.and_eq_true, decide_eq_true_eq] at h
  obtain ⟨h1, h2⟩ := h
  have e1 : IntKind.u64.min = 0 := rfl
  have e2 : IntKind.u64.max = 18446744073709551615 := rfl
  rw [e1] at h1; rw [e2] at h2
  exact ⟨h1, by omega⟩

theorem rowNil (W : World) : Kd.C k64 W none ([] : List S64).length [] := by
  refine ⟨rfl, ?_, fun h => ?_⟩
  · rw [List.length_nil]; omega
  · rw [List.length_nil] at h; omega
theorem len4 {α : Type} {l : List α} (h : l.length = 4) : ∃ a b c d, l = [a, b, c, d] := by
  match l, h with
  | [a, b, c, d], _ => exact ⟨a, b, c, d, rfl⟩
theorem open_velem {W : World} {sp : Nat → Bool} {n : Nat} {cs : List Value} {x : DataW H × List MemPlace} (h : DataW.trod enc Tryz.prog W 0 sp true n 64 cs = some x) :
    ∃ t : S64, k64.K W t cs ∧ rngV t = true := by
  obtain ⟨y0, y1, y2, y3, m, rfl, hl, h0, h1, h2, h3⟩ := trod_struct4 Tryz.underlying64 h
  obtain ⟨k, e0, rfl, w0⟩ := DataW.trod_int Tryz.underlying3 h0
  obtain ⟨n, e1, rfl, w1⟩ := DataW.trod_int Tryz.underlying3 h1
  obtain ⟨f, e2, rfl, w2⟩ := DataW.trod_int Tryz.underlying56 h2
  obtain ⟨t, e3, rfl, w3⟩ := DataW.trod_string Tryz.underlying9 h3
  have hc4 : Tryz.prog.cellsOf 64 = 4 := by kernel_rfl
  have hc1 : Tryz.prog.cellsOf 3 = 1 := by kernel_rfl
  have hc2 : Tryz.prog.cellsOf 9 = 1 := by kernel_rfl
  have hc3 : Tryz.prog.cellsOf 56 = 1 := by kernel_rfl
  rw [hc4] at hl
  obtain ⟨u0, u1, u2, u3, hu⟩ := len4 hl
  rw [hu, hc1] at e0 e1
  rw [hu, hc3] at e2
  rw [hu, hc2] at e3
  obtain rfl : u0 = .int .i64 k := (List.cons.inj e0).1
  obtain rfl : u1 = .int .i64 n := (List.cons.inj e1).1
  obtain rfl : u2 = .int .u64 f := (List.cons.inj e2).1
  obtain rfl : u3 = .string t := (List.cons.inj e3).1
  rw [hu]
  exact ⟨⟨k, n, f, t⟩, k64_mk W ⟨k, n, f, t⟩, (rngV_iff _).2 ⟨i64_of_wf w1, u64_of_wf w2⟩⟩

theorem choose_lt {α : Type} [Inhabited α] {n : Nat} {P : Nat → α → Prop} (h : ∀ i, i < n → ∃ x, P i x) : ∃ F : Nat → α, ∀ i, i < n → P i (F i) := by
  classical
  refine ⟨fun i => if hi : i < n then Classical.choose (h i hi) else default, fun i hi => ?_⟩
  simp only [hi, dif_pos]
  exact Classical.choose_spec (h i hi)

set_option maxRecDepth 100000 in
theorem open_row {W : World} {base : Nat} {v : Value} {d : DataW H} {p : List MemPlace} (hv : Value.okWide Tryz.prog W .any base 24 v)
    (h : DataW.Trod enc Tryz.prog W 0 (fun _ => true) true 24 v d p) :
    ∃ (A : Option Addr) (c : Nat) (L : List S64), v = Value.slice A L.length c ∧ L.length ≤ c ∧ Kd.C k64 W A L.length L ∧ rngL L = true := by
  obtain ⟨A, len, cap, rfl⟩ := okWide_slice Tryz.underlying24 hv
  obtain ⟨fuel, hf⟩ := h
  rcases open_slice Tryz.underlying24 hf with ⟨hcs, hx⟩ | ⟨ad, l, c, m, n, D, Pl, hcs, _, hl, hm, hmm, hx, he⟩
  · simp [Value.cells] at hcs
    obtain ⟨rfl, rfl, rfl⟩ := hcs
    exact ⟨none, 0, [], rfl, Nat.le_refl _, rowNil W, rfl⟩
  · simp [Value.cells] at hcs
    obtain ⟨rfl, rfl, rfl⟩ := hcs
    have hc4 : Tryz.prog.cellsOf 64 = 4 := by kernel_rfl
    have hml : len ≤ m := by rw [hmm]; split <;> omega
    have key : ∀ i, i < len → ∃ t : S64, rngV t = true ∧ ∃ cs, cs.length = 4 ∧ k64.K W t cs ∧ ∀ j u, cs[j]? = some u → W.cell? (ad.add (i * 4 + j)) = some u := by
      intro i hi
      obtain ⟨cs, h1, h2⟩ := he i (by omega)
      obtain ⟨t, hk, ht⟩ := open_velem h2
      rw [hc4] at h1
      obtain ⟨_, hlen, hcell⟩ := World.cells?_some h1
      refine ⟨t, ht, cs, hlen, hk, fun j u hu => ?_⟩
      have hj : j < 4 := by rw [← hlen]; exact (List.getElem?_eq_some_iff.1 hu).1
      have := hcell j hj
      rw [Deep.add_add, hu] at this
      exact this
    haveI : Inhabited S64 := ⟨z64⟩
    obtain ⟨F, hF⟩ := choose_lt (α := S64) key
    have hLl : ((List.range len).map F).length = len := by simp
    refine ⟨some ad, cap, (List.range len).map F, by rw [hLl], by rw [hLl]; exact hl, ?_, ?_⟩
    · refine ⟨rfl, by rw [hLl]; unfold maxLen at hm; omega, fun _ => ⟨ad, rfl, fun j p hj => ?_⟩⟩
      have hjl : j < len := by rw [← hLl]; exact (List.getElem?_eq_some_iff.1 hj).1
      have : p = F j := by simpa [hjl] using hj.symm
      subst this
      obtain ⟨_, cs, h1, h2, h3⟩ := hF j hjl
      exact ⟨cs, h1, h2, h3⟩
    · refine List.all_eq_true.2 fun t ht => ?_
      obtain ⟨i, hi, rfl⟩ := List.mem_map.1 ht
      exact (hF i (List.mem_range.1 hi)).1

theorem intNil (W : World) : Kd.C (Kd.int .i64) W none ([] : List Int).length [] := by
  refine ⟨rfl, ?_, fun h => ?_⟩
  · rw [List.length_nil]; omega
  · rw [List.length_nil] at h; omega
set_option maxRecDepth 100000 in
theorem open_nums {W : World} {base : Nat} {v : Value} {d : DataW H} {p : List MemPlace} (hv : Value.okWide Tryz.prog W .any base 37 v)
    (h : DataW.Trod enc Tryz.prog W 0 (fun _ => true) true 37 v d p) :
    ∃ (A : Option Addr) (c : Nat) (L : List Int), v = Value.slice A L.length c ∧ L.length ≤ c ∧ Kd.C (Kd.int .i64) W A L.length L ∧ (∀ x ∈ L, I64 x) := by
  obtain ⟨A, len, cap, rfl⟩ := okWide_slice Tryz.underlying37 hv
  obtain ⟨fuel, hf⟩ := h
  rcases open_slice Tryz.underlying37 hf with ⟨hcs, hx⟩ | ⟨ad, l, c, m, n, D, Pl, hcs, _, hl, hm, hmm, hx, he⟩
  · simp [Value.cells] at hcs
    obtain ⟨rfl, rfl, rfl⟩ := hcs
    exact ⟨none, 0, [], rfl, Nat.le_refl _, intNil W, fun x hx => absurd hx List.not_mem_nil⟩
  · simp [Value.cells] at hcs
    obtain ⟨rfl, rfl, rfl⟩ := hcs
    have hc1 : Tryz.prog.cellsOf 3 = 1 := by kernel_rfl
    have hml : len ≤ m := by rw [hmm]; split <;> omega
    have key : ∀ i, i < len → ∃ t : Int, I64 t ∧ ∃ cs, cs.length = 1 ∧ cs = [Value.int .i64 t] ∧ ∀ j u, cs[j]? = some u → W.cell? (ad.add (i * 1 + j)) = some u := by
      intro i hi
      obtain ⟨cs, h1, h2⟩ := he i (by omega)
      obtain ⟨t, e0, ex, w0⟩ := DataW.trod_int Tryz.underlying3 h2
      rw [hc1] at h1
      obtain ⟨_, hlen, hcell⟩ := World.cells?_some h1
      have hcs : cs = [Value.int .i64 t] := e0
      refine ⟨t, i64_of_wf w0, cs, hlen, hcs, fun j u hu => ?_⟩
      have hj : j < 1 := by rw [← hlen]; exact (List.getElem?_eq_some_iff.1 hu).1
      have := hcell j hj
      rw [Deep.add_add, hu] at this
      exact this
    obtain ⟨F, hF⟩ := choose_lt (α := Int) key
    have hLl : ((List.range len).map F).length = len := by simp
    refine ⟨some ad, cap, (List.range len).map F, by rw [hLl], by rw [hLl]; exact hl, ?_, ?_⟩
    · refine ⟨rfl, by rw [hLl]; unfold maxLen at hm; omega, fun _ => ⟨ad, rfl, fun j p hj => ?_⟩⟩
      have hjl : j < len := by rw [← hLl]; exact (List.getElem?_eq_some_iff.1 hj).1
      have : p = F j := by simpa [hjl] using hj.symm
      subst this
      obtain ⟨_, cs, h1, h2, h3⟩ := hF j hjl
      exact ⟨cs, h1, h2, h3⟩
    · intro x hx
      obtain ⟨i, hi, rfl⟩ := List.mem_map.1 hx
      exact (hF i (List.mem_range.1 hi)).1
end

end Go.Proofs.YthpkjkcfhipjhaaGreatDoor
