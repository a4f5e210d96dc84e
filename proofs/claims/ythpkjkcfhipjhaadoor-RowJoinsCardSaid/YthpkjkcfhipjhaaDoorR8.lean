/- row.Decode: the row of these bytes, or why there is none. What is left behind a reading that gives up. -/
import Derived.Test.YthpkjkcfhipjhaaDoorR7c
import Derived.RegionTactic
import Derived.BigRegion
import Derived.Deep.RegionLaw
import Derived.Deep.AppendLies
import Derived.Deep.RegionHeld3
namespace Go.Proofs.YthpkjkcfhipjhaaDoor
set_option linter.unusedVariables false
set_option linter.unusedSimpArgs false
open Go.RowKit Go.Proofs.YthpkjkcfhipjhaaDoorW.PrintWords Go.Proofs.YthpkjkcfhipjhaaDoorW.PrintLast PRW

/-- Q, but at a panic for whatever the slots from N on hold. -/
def AnyPanic (N : Nat) (Q : Exit → Act → World → Prop) : Exit → Act → World → Prop
  | .panic c, a, w => ∀ a' : Act, a'.defers = a.defers → (∀ i, i < N → a'.tmps[i]? = a.tmps[i]?) → Q (.panic c) a' w
  | e, a, w => Q e a w
theorem AnyPanic.imp {N : Nat} {Q : Exit → Act → World → Prop} : ∀ (e : Exit) (a : Act) (w : World), AnyPanic N Q e a w → Q e a w := fun e a w h => by
  cases e <;> first | exact h | exact (show ∀ a' : Act, a'.defers = a.defers → (∀ i, i < N → a'.tmps[i]? = a.tmps[i]?) → Q _ a' w from h) a rfl (fun _ _ => rfl)
theorem wp_region_anyPanic (N : Nat) {P : Program} {id : Nat} {ops : Array Oper} {b : Bool} {Q : Exit → Act → World → Prop} {a : Act} {w : World} (h : (Code.region id ops b).wp P (AnyPanic N Q) a w) : (Code.region id ops b).wp P Q a w :=
  Code.wp_mono AnyPanic.imp h
theorem AnyPanic.normal {N : Nat} {Q : Exit → Act → World → Prop} {a : Act} {w : World} (h : Q .normal a w) : AnyPanic N Q .normal a w := h
theorem AnyPanic.put {N : Nat} {Q : Exit → Act → World → Prop} (k : Nat) (hk : N ≤ k) (v : Value) : ∀ c a w, AnyPanic N Q (.panic c) (a.put (some k) v) w → AnyPanic N Q (.panic c) a w := by
  intro c a w h a' hd hs
  refine h a' (hd.trans (by simp [Act.put])) fun i hi => (hs i hi).trans ?_
  simp only [Act.put]
  rw [Array.getElem?_setIfInBounds]
  rw [if_neg (by omega)]

section
variable {P : Program} {ops : Array Oper} {Q : Exit → Act → World → Prop}
/-- A call in a region that draws its order, the callee gives up. -/
theorem goesX_ {oi : Oper} {N : Option Tmp} {a : Act} {w : World} {K : Act → World → Prop} {f : FuncId} {fn : Func} {xs : Array Operand} {ts : Array TypeId} (hf : P.funcs[f]? = some fn) (hname : (fn.name == "runtime.NumGoroutine") = false) (hb : fn.body.isSome = true) (args : Array Value)
    (hw : Region.wanted oi (yielded ops a.tmps) = true) (hop : oi.op = .call { callee := .value (.func f), args := xs, argTypes := ts }) (hargs : xs.map a.eval = args)
    (h : Calls P f args w fun e w' => ∃ ch, e = .panicked ch ∧ Q (.panic ch) a w') : if Region.wanted oi (yielded ops a.tmps) = true then Oper.wp P oi a w K Q else K (a.put N undef) w := by
  rw [if_pos hw]
  have he := enters_ hf hname hb args w
  have hrun : (execOp a.eval oi).run P w = .ok (.enter f args) w := by
    unfold execOp
    simp [hop, resolve, Deferred.ofValue, invoke, Act.eval, hargs, he]
  unfold Oper.wp
  rw [hrun, Oper.upon_enter]
  refine h.mono fun e w'' hh => ?_
  obtain ⟨ch, rfl, hk⟩ := hh
  exact hk
end

theorem rframe_same (c : Frame) (m : FrameMode) (h : c.mode = m) : c = { c with mode := m } := by cases c; cases h; rfl
theorem rta_nil (w : World) : (Instr.typeAssert .nilIface 20 79 true).run Tryd.prog w = .ok (.tuple #[.agg #[.int .i64 0], .bool false]) w := by kernel_rfl
theorem rta_flt (c : Int) (w : World) : (Instr.typeAssert (.iface 79 (.agg #[.int .i64 c])) 20 79 true).run Tryd.prog w = .ok (.tuple #[.agg #[.int .i64 c], .bool true]) w := by kernel_rfl

set_option maxRecDepth 100000 in
/-- behind a return: nothing is recovered -/
theorem dec1_ret (b0 b1 : Nat) (w : World) :
    CallsD Tryd.prog 46 #[.pointer (some ⟨b0, 0, none⟩), .pointer (some ⟨b1, 0, none⟩)] .returning w fun e u' w' => u' = .returning ∧ e = .returned (.tuple #[]) ∧ Below w.heap.size w w' := by
  refine callsD_of_wpS Tryd.func46 rfl fun c₀ cs hu => ?_
  simp only [Tryd.ntmps46, List.size_toArray, List.length_cons, List.length_nil, Nat.reduceAdd, Nat.reduceSub, Array.replicate_succ, Array.replicate_zero, List.push_toArray, List.append_toArray, List.nil_append, List.cons_append]
  apply wpS_seq
  apply wpS_region
  simp [wpOpsS, go_sem, recoverD, hu, Exit.thenS, rta_nil]
  apply wpS_of_wp
  go_wp2_with fail
  exact ⟨rfl, .returning, congrArg (· :: cs) (rframe_same c₀ _ hu), _, results_none rfl _ _ _, rfl, rfl, below_box _ _⟩

/-- what it leaves: no row, the error -/
def GaveD (B b0 b1 : Nat) (c : Int) (w : World) (e : Ending) (u' : FrameMode) (w' : World) : Prop :=
  u' = .panicking [{ v := .iface 79 (.agg #[.int .i64 c]), recovered := true }] ∧ e = .returned (.tuple #[]) ∧ Below B w w' ∧
  w'.cell? ⟨b0, 0, none⟩ = some (.slice none 0 0) ∧ w'.cell? ⟨b1, 0, none⟩ = some (.int .i64 c)

set_option maxHeartbeats 2000000 in
set_option maxRecDepth 100000 in
theorem dec1_pan (B b0 b1 : Nat) (c : Int) (w : World) (v0 v1 : Value) (hB : B ≤ b0) (h01 : b0 < b1) (hb1 : b1 < w.heap.size)
    (c0 : w.cell? ⟨b0, 0, none⟩ = some v0) (c1 : w.cell? ⟨b1, 0, none⟩ = some v1)
    (f0 : w.frozen? ⟨b0, 0, none⟩ = false) (f1 : w.frozen? ⟨b1, 0, none⟩ = false) :
    CallsD Tryd.prog 46 #[.pointer (some ⟨b0, 0, none⟩), .pointer (some ⟨b1, 0, none⟩)] (.panicking (flr c)) w (GaveD B b0 b1 c w) := by
  refine callsD_of_wpS Tryd.func46 rfl fun c₀ cs hu => ?_
  have hb0 : b0 < w.heap.size := by omega
  have n01 : ¬ b0 = b1 := by omega
  have n10 : ¬ b1 = b0 := by omega
  have hn0 : ¬ w.heap.size = b0 := by omega
  have hn1 : ¬ w.heap.size = b1 := by omega
  simp only [Tryd.ntmps46, List.size_toArray, List.length_cons, List.length_nil, Nat.reduceAdd, Nat.reduceSub, Array.replicate_succ, Array.replicate_zero, List.push_toArray, List.append_toArray, List.nil_append, List.cons_append]
  apply wpS_seq
  apply wpS_region
  simp [wpOpsS, go_sem, recoverD, hu, Exit.thenS, flr, rta_flt]
  apply wpS_of_wp
  go_wp2_with fail
  go_region
  clear hu
  refine ⟨rfl, .panicking [{ v := .iface 79 (.agg #[.int .i64 c]), recovered := true }], rfl, _, results_none rfl _ _ _, rfl, rfl, ?_, ?_, ?_⟩
  rotate_left
  · simp [go_sem, *]
  · simp [go_sem, *]
  repeat (first | (with_reducible exact Below.refl _ _) | (with_reducible refine below_sc ?_ ?_ _; · (first | (simp; done) | (simp; omega) | omega)) | (with_reducible refine Below.drew ?_) | (with_reducible refine below_al2 ?_ ?_ _; · (first | omega | (simp; done) | (simp; omega))))

/-- the program's value -/
def ofV (x : V) : S56 := ⟨x.k, x.n, x.f, x.t⟩
theorem toV_ofV (x : V) : toV (ofV x) = x := rfl
theorem ofV_toV (x : S56) : ofV (toV x) = x := rfl

/-- what Decode answers -/
def OutD2 (r : Except Int (List V)) (w : World) (e : Ending) (w' : World) : Prop :=
  match r with
  | .ok l => ∃ v, e = .returned (.tuple #[v, .int .i64 0]) ∧ Kd.R k56 56 w' w.heap.size (fun _ => True) v (l.map ofV) ∧ Below w.heap.size w w'
  | .error c => e = .returned (.tuple #[.slice none 0 0, .int .i64 c]) ∧ Below w.heap.size w w'
theorem outD_ok {R : Except Int (List V)} {l : List V} {v : Value} {w w' : World} {e : Ending} (hR : R = .ok l) (he : e = .returned (.tuple #[v, .int .i64 0])) (hr : Kd.R k56 56 w' w.heap.size (fun _ => True) v (l.map ofV)) (hb : Below w.heap.size w w') : OutD2 R w e w' := by subst hR; exact ⟨v, he, hr, hb⟩
theorem outD_err {R : Except Int (List V)} {c : Int} {w w' : World} {e : Ending} (hR : R = .error c) (he : e = .returned (.tuple #[.slice none 0 0, .int .i64 c])) (hb : Below w.heap.size w w') : OutD2 R w e w' := by subst hR; exact ⟨he, hb⟩

/-- the state of the loop: block B the row, B + 1 the error, B + 2 the reader -/
structure Lp (B : Nat) (w wr : World) (l : List UInt8) (acc : List V) (v : Value) : Prop where
  rd : Rd wr (B + 1 + 1) l
  below : Below B w wr
  c0 : wr.cell? ⟨B, 0, none⟩ = some v
  c1 : wr.cell? ⟨B + 1, 0, none⟩ = some (.int .i64 0)
  f0 : wr.frozen? ⟨B, 0, none⟩ = false
  f1 : wr.frozen? ⟨B + 1, 0, none⟩ = false
  row : Kd.R k56 56 wr (B + 3) (fun k => B + 3 ≤ k) v (acc.map ofV)
theorem Lp.lt {B : Nat} {w wr : World} {l : List UInt8} {acc : List V} {v : Value} (h : Lp B w wr l acc v) : B + 1 + 1 < wr.heap.size := h.rd.lt
theorem Lp.fr {B : Nat} {w wr w1 : World} {l l' : List UInt8} {acc : List V} {v : Value} (h : Lp B w wr l acc v) (hF : Fr (B + 1 + 1) wr w1) (hS : Rd w1 (B + 1 + 1) l') : Lp B w w1 l' acc v := by
  have hl := h.lt
  refine ⟨hS, hF.below h.below (by omega) (by omega), ?_, ?_, ?_, ?_, ?_⟩
  · rw [hF.cell _ _ (by omega) (by omega)]; exact h.c0
  · rw [hF.cell _ _ (by omega) (by omega)]; exact h.c1
  · rw [hF.frozen _ _ (by omega) (by omega)]; exact h.f0
  · rw [hF.frozen _ _ (by omega) (by omega)]; exact h.f1
  · exact Kd.R_step h.row (fun k hk hlt => hF.block k hlt (by omega))
theorem Lp.bl {B : Nat} {w wr w1 : World} {l : List UInt8} {acc : List V} {v : Value} (h : Lp B w wr l acc v) (hb : Below wr.heap.size wr w1) : Lp B w w1 l acc v := h.fr (.of hb) (h.rd.below hb)
theorem Lp.len {B : Nat} {w wr : World} {l : List UInt8} {acc : List V} {v : Value} (h : Lp B w wr l acc v) : ∃ A c, v = .slice A acc.length c := by
  obtain ⟨A, c, hv, hl, hr⟩ := Kd.R_reads h.row
  rw [List.length_map] at hv
  exact ⟨A, c, hv⟩
theorem Lp.next {B : Nat} {w wd w5 : World} {l : List UInt8} {acc acc' : List V} {v v5 : Value} (h : Lp B w wd l acc v) (hb : Below (B + 3) wd w5) (ho : Kd.R k56 56 w5 (B + 3) (fun k => B + 3 ≤ k) v5 (acc'.map ofV)) :
    Lp B w (w5.setCell ⟨B, 0, none⟩ v5) l acc' v5 := by
  obtain ⟨⟨s0, sf⟩, hbel, c0, c1, f0, f1, hrow⟩ := h
  have e0 := (hb.cell (p := ⟨B, 0, none⟩) (by simp)).trans c0
  have e1 := (hb.cell (p := ⟨B + 1, 0, none⟩) (by simp)).trans c1
  have e2 := (hb.cell (p := ⟨B + 1 + 1, 0, none⟩) (by simp)).trans s0
  have g0 := (hb.frozen (p := ⟨B, 0, none⟩) (by simp)).trans f0
  have g1 := (hb.frozen (p := ⟨B + 1, 0, none⟩) (by simp)).trans f1
  have g2 := (hb.frozen (p := ⟨B + 1 + 1, 0, none⟩) (by simp)).trans sf
  refine ⟨⟨by simp [go_sem, *], by simp [go_sem, *]⟩, (hbel.trans (hb.mono (by omega))).setCell (by simp) _, by simp [go_sem, *], by simp [go_sem, *], by simp [go_sem, *], by simp [go_sem, *], ?_⟩
  exact Kd.R_far ho (p := ⟨B, 0, none⟩) (fun k hk => by simp; omega) v5

theorem decV_lt {l l' : List UInt8} {x : V} (h : decV l = .ok (x, l')) : l'.length < l.length := by
  have := (enc_decV h).1
  have h2 := congrArg List.length this
  rw [List.length_append] at h2
  have : 0 < (encV x).length := List.length_pos_iff.2 (encV_ne x)
  omega
theorem decR_fuel : ∀ (k k' : Nat) (acc : List V) (l : List UInt8), l.length < k → l.length < k' → decR k acc l = decR k' acc l
  | 0, _, _, _, h, _ => absurd h (by omega)
  | _, 0, _, _, _, h => absurd h (by omega)
  | k + 1, k' + 1, acc, l, h, h' => by
    rw [decR, decR]
    by_cases h0 : l = []
    · rw [if_pos h0, if_pos h0]
    · rw [if_neg h0, if_neg h0]
      by_cases h1 : acc.length < 1024
      · rw [if_pos h1, if_pos h1]
        cases hd : decV l with
        | error e => rfl
        | ok r =>
          obtain ⟨x, l'⟩ := r
          have := decV_lt hd
          exact decR_fuel k k' _ _ (by omega) (by omega)
      · rw [if_neg h1, if_neg h1]
/-- the row of these bytes -/
def decB (l : List UInt8) : Except Int (List V) := decR (l.length + 1) [] l
theorem decR_end (acc : List V) (k : Nat) : decR (k + 1) acc [] = .ok acc := by rw [decR]; simp
theorem decR_many (acc : List V) (l : List UInt8) (h : l ≠ []) (k : Nat) (ha : ¬ acc.length < 1024) : decR (k + 1) acc l = .error 1 := by rw [decR, if_neg h, if_neg ha]
theorem decR_bad (acc : List V) (l : List UInt8) (h : l ≠ []) (k : Nat) (ha : acc.length < 1024) (e : Int) (hd : decV l = .error e) : decR (k + 1) acc l = .error e := by rw [decR, if_neg h, if_pos ha, hd]
theorem decR_step (acc : List V) (l l' : List UInt8) (h : l ≠ []) (ha : acc.length < 1024) (x : V) (hd : decV l = .ok (x, l')) : decR (l.length + 1) acc l = decR (l'.length + 1) (acc ++ [x]) l' := by
  rw [decR, if_neg h, if_pos ha, hd]
  exact decR_fuel _ _ _ _ (decV_lt hd) (by omega)

theorem infVal : (Tryd.prog.info? 56).map (fun i => (i.zero, i.size, i.bytes)) = some (some (.agg #[(.int .i64 0), (.int .i64 0), (.int .u64 0), (.string ⟨#[]⟩)]), 4, 40) := by kernel_rfl

end Go.Proofs.YthpkjkcfhipjhaaDoor
