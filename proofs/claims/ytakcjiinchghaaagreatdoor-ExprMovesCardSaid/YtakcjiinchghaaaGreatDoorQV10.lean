/- a part of the claim: what the card leans on, out of the texts EL7, EL8, EL9 (put together by wip/tools/shake.py). -/
import Derived.Test.YtakcjiinchghaaaGreatDoorQV1
import Derived.Test.YtakcjiinchghaaaGreatDoorQV5
import Derived.Test.YtakcjiinchghaaaGreatDoorQV8
import Derived.Test.YtakcjiinchghaaaGreatDoorQV9
import Derived.Lib.ItoaLen
import Derived.Test.YtakcjiinchghaaaGreatDoorProg
import Derived.Below
import Derived.Deep.Draws
import Derived.Deep.AppendLies
import Derived.Maps.AppendAt
import Derived.OwnWalk
import Derived.Laws.BytesArg
import Derived.Laws.MakeOwn
import Derived.Laws.OwnMore
import Derived.Deep.OwnRows
import Derived.Tactics
import Derived.Lib.ConvBytes
import Derived.Laws.Slices
import Derived.WalkKit
import Derived.KernelRfl
import Derived.RowKit3
import Derived.Deep.LoopGhost
import Derived.Deep.QuietTactic
import Derived.BigQuiet
import Derived.WideLaws
import Derived.Deep.DeepCutAuto
import Derived.Deep.CutBlock
import Derived.Deep.RegionHeld3
import Derived.Laws.Rows
import Derived.Lib.AppendStr
import Derived.ArgAppend
import Derived.Laws.IdiomCopy
import Derived.OrdersHeld
import Derived.Laws.BitsLemmas
import Derived.RowKit
section
namespace Go.Proofs.YtakcjiinchghaaaGreatDoor
set_option linter.unusedVariables false
set_option linter.unusedSimpArgs false
open Go.RowKit Go.Proofs.YtakcjiinchghaaaGreatDoorW.PrintWords Go.Proofs.YtakcjiinchghaaaGreatDoorW.PrintLast PRW PRM
theorem wn4 (i : Nat) (h : i < 9223372036854775807) : wrap64 ((i : Int) + 1) = ((i + 1 : Nat) : Int) := by unfold wrap64; omega
theorem rd_getD (L : List S41) (i : Nat) (h : i < L.length) : rd_T41 L (i : Int) = L[i] := by unfold rd_T41; simp [h]
end Go.Proofs.YtakcjiinchghaaaGreatDoor
end
section
namespace Go.Proofs.YtakcjiinchghaaaGreatDoor
set_option linter.unusedVariables false
set_option linter.unusedSimpArgs false
open Go.RowKit Go.Proofs.YtakcjiinchghaaaGreatDoorW.PrintWords Go.Proofs.YtakcjiinchghaaaGreatDoorW.PrintLast PRW PRM
theorem mk_size (l : List UInt8) : (⟨l.toArray⟩ : ByteArray).size = l.length := by show l.toArray.size = _; simp
theorem hexP_len5 : ∀ (n u : Nat), (hexP n u).length = n
  | 0, _ => rfl
  | n + 1, u => by rw [hexP, List.length_append, hexP_len5 n]; rfl
theorem showL_len (k n f : Int) (t : ByteArray) (hn : I64 n) : (showL k n f t).length ≤ 17000 := by
  unfold showL
  split
  · simp
  · rename_i hs
    split
    · simp
    · split
      · cases (n == 1) <;> decide
      · split
        · have := Lib.itoa_length_le n hn.1 hn.2; omega
        · split
          · rename_i h4
            subst h4
            have h5 : t.size ≤ 4096 := by
              simp only [Bool.not_eq_true', Bool.not_eq_false] at hs
              unfold soundV at hs
              simp at hs
              exact hs.2
            unfold quotedL
            have := escs_len t.data.toList
            have h6 : t.data.toList.length = t.size := by rw [← Lib.size_eq]
            simp only [List.length_cons, List.length_append, List.length_nil]
            omega
          · rw [List.length_append, hexP_len5]; simp
theorem showI (n : Int) : showL 2 n 0 ⟨#[]⟩ = Lib.itoa n := by
  have h : soundV 2 n 0 ⟨#[]⟩ = true := by unfold soundV eqV; simp
  unfold showL
  rw [h]; rfl
theorem xShowI {n : Int} (h : I64 n) : freshetref05_num.f n = some ⟨(Lib.itoa n).toArray⟩ := by
  unfold freshetref05_num.f
  rw [show xrShow.f 2 n 0 ⟨#[]⟩ = some ⟨(showL 2 n 0 ⟨#[]⟩).toArray⟩ from if_pos ⟨h, by omega, by omega⟩, showI]; rfl
/-- the steps' texts, with blanks between -/
def joinB (xs : List ByteArray) : ByteArray := ⟨(Lib.join (xs.map (·.data.toList)) [32]).toArray⟩
theorem ba_ext {a b : ByteArray} (h : a.data.toList = b.data.toList) : a = b := by
  apply ByteArray.ext
  exact Array.ext' h
theorem joinB_snoc (xs : List ByteArray) (y : ByteArray) : joinB (xs ++ [y]) = if xs = [] then y else joinB xs ++ ⟨#[32]⟩ ++ y := by
  match xs with
  | [] =>
    rw [if_pos rfl]
    apply ba_ext
    unfold joinB
    simp [Lib.join_one]
  | x :: r =>
    rw [if_neg (by simp)]
    apply ba_ext
    unfold joinB
    rw [List.cons_append, List.map_cons, List.map_cons, Lib.join_cons, Lib.join_cons]
    simp [Lib.joinTail]
theorem step_le (d : S41) (h0 : I64 d.f0) (h1 : I64 d.f1) (h2 : I64 d.f2.f1) : (codeS d).size ≤ 21 ∧ (tailS d).size ≤ 17000 := by
  have a := Lib.itoa_length_le d.f0 h0.1 h0.2
  refine ⟨by unfold codeS; rw [mk_size]; exact a, ?_⟩
  unfold tailS
  split
  · rw [mk_size]; exact showL_len _ _ _ _ h2
  · split
    · rw [mk_size]; have := Lib.itoa_length_le d.f1 h1.1 h1.2; omega
    · exact Nat.zero_le _
theorem stepS_le (d : S41) (h0 : I64 d.f0) (h1 : I64 d.f1) (h2 : I64 d.f2.f1) : (stepS d).size ≤ 17100 := by
  obtain ⟨a, b⟩ := step_le d h0 h1 h2
  by_cases h : d.f0 = 1 ∨ d.f0 = 2 ∨ d.f0 = 6
  · rw [stepS_size d h]; omega
  · rw [stepS_size0 d h]; omega
theorem joinB_size : ∀ (e : List S41), (∀ d ∈ e, I64 d.f0 ∧ I64 d.f1 ∧ I64 d.f2.f1) → ∀ i, i ≤ e.length → (joinB (partsE (e.take i))).size ≤ i * 17200
  | e, h, 0, _ => (show (joinB []).size ≤ 0 * 17200 from Nat.le_refl _)
  | e, h, i + 1, hi => by
    have hlt : i < e.length := by omega
    rw [parts_take (List.getElem?_eq_getElem hlt), joinB_snoc]
    have h1 := stepS_le e[i] (h _ (List.getElem_mem hlt)).1 (h _ (List.getElem_mem hlt)).2.1 (h _ (List.getElem_mem hlt)).2.2
    have h2 := joinB_size e h i (by omega)
    split
    · omega
    · rw [ByteArray.size_append, ByteArray.size_append]
      have : (⟨#[32]⟩ : ByteArray).size = 1 := rfl
      omega
theorem rshow_ev (e : List S41) (hl : e.length ≤ 4100) (re : rngD e = true) (rc : rngC e = true) : Ev (fun k => freshetref05_Show.f k e) (joinB (partsE e)) := by
  have hr : ∀ d ∈ e, I64 d.f0 ∧ I64 d.f1 ∧ I64 d.f2.f1 := fun d hd => by
    have h1 := List.all_eq_true.1 rc d hd
    simp only [Bool.and_eq_true, decide_eq_true_eq] at h1
    have h2 := rngD_at re d hd
    exact ⟨⟨h1.1, h1.2⟩, h2.1, h2.2.1⟩
  have main : ∀ n i : Nat, i + n = e.length → Ev (fun k => freshetref05_Show.l0 k e (joinB (partsE (e.take i))) (i : Int)) (joinB (partsE e)) := by
    intro n
    induction n with
    | zero =>
      intro i hi
      rw [show e.take i = e from List.take_of_length_le (by omega)]
      refine Ev.step (f := fun _ => some _) (fun k => ?_) (Ev.now _)
      rw [freshetref05_Show.l0, if_neg (by omega)]
    | succ n ih =>
      intro i hi
      have hlt : i < e.length := by omega
      have nxt := ih (i + 1) (by omega)
      obtain ⟨h0, h1, h2⟩ := hr e[i] (List.getElem_mem hlt)
      have hu := (rngD_at re e[i] (List.getElem_mem hlt)).2.2
      obtain ⟨z1, z2⟩ := step_le e[i] h0 h1 h2
      have hz := joinB_size e hr i (by omega)
      rw [parts_take (List.getElem?_eq_getElem hlt)] at nxt
      have s1 : (⟨#[58]⟩ : ByteArray).size = 1 := rfl
      have s2 : (⟨#[32]⟩ : ByteArray).size = 1 := rfl
      -- behind the blank
      have J1 : ∀ pre : ByteArray, pre.size ≤ i * 17200 + 1 → pre ++ stepS e[i] = joinB (partsE (e.take i) ++ [stepS e[i]]) → Ev (fun k => freshetref05_Show.j1 k e pre (i : Int)) (joinB (partsE e)) := fun pre hp heq => by
        rw [← heq] at nxt
        have hcode : freshetref05_num.f e[i].f0 = some (codeS e[i]) := xShowI h0
        refine Ev.step (fun k => ?_) nxt
        rw [freshetref05_Show.j1, if_pos (by omega), if_pos (by omega), rd_getD e i hlt, hcode]
        simp only [Option.bind_some]
        rw [if_pos (by omega), if_pos (by rw [ByteArray.size_append]; omega), wn4 i (by omega)]
        by_cases c1 : e[i].f0 = 1
        · have ht : tailS e[i] = ⟨(showL e[i].f2.f0 e[i].f2.f1 e[i].f2.f2 e[i].f2.f3).toArray⟩ := if_pos c1
          have hst : stepS e[i] = codeS e[i] ++ ⟨#[58]⟩ ++ tailS e[i] := if_pos (.inl c1)
          rw [if_pos c1, show xrShow.f e[i].f2.f0 e[i].f2.f1 e[i].f2.f2 e[i].f2.f3 = some (tailS e[i]) from by rw [ht]; exact if_pos ⟨h2, hu⟩]
          simp only [Option.bind_some]
          rw [if_pos (by simp only [ByteArray.size_append, s1]; omega), if_neg (by omega), if_neg (by omega), hst]
          simp only [ByteArray.append_assoc]
        by_cases c2 : e[i].f0 = 2
        · have ht : tailS e[i] = ⟨(Lib.itoa e[i].f1).toArray⟩ := by unfold tailS; rw [if_neg c1, if_pos (.inl c2)]
          have hst : stepS e[i] = codeS e[i] ++ ⟨#[58]⟩ ++ tailS e[i] := if_pos (.inr (.inl c2))
          rw [if_neg c1, if_pos c2, xShowI h1, ← ht]
          simp only [Option.bind_some]
          rw [if_pos (by simp only [ByteArray.size_append, s1]; omega), hst]
          simp only [ByteArray.append_assoc]
        by_cases c6 : e[i].f0 = 6
        · have ht : tailS e[i] = ⟨(Lib.itoa e[i].f1).toArray⟩ := by unfold tailS; rw [if_neg c1, if_pos (.inr c6)]
          have hst : stepS e[i] = codeS e[i] ++ ⟨#[58]⟩ ++ tailS e[i] := if_pos (.inr (.inr c6))
          rw [if_neg c1, if_neg c2, if_pos c6, xShowI h1, ← ht]
          simp only [Option.bind_some]
          rw [if_pos (by simp only [ByteArray.size_append, s1]; omega), hst]
          simp only [ByteArray.append_assoc]
        have hst : stepS e[i] = codeS e[i] ++ ⟨#[58]⟩ := if_neg (by omega)
        rw [if_neg c1, if_neg c2, if_neg c6, hst]
        simp only [ByteArray.append_assoc]
      by_cases hi0 : i = 0
      · subst hi0
        refine Ev.step (fun k => ?_) (J1 (joinB (partsE (e.take 0))) (by omega) ?_)
        · rw [freshetref05_Show.l0, if_pos (by omega), if_neg (by omega)]
        · rw [joinB_snoc]
          have : partsE (e.take 0) = [] := by simp [partsE]
          rw [this, if_pos rfl]
          have e0 : joinB [] = ⟨#[]⟩ := by simp [joinB, Lib.join_nil]
          rw [e0]
          apply ba_ext; simp
      · refine Ev.step (fun k => ?_) (J1 (joinB (partsE (e.take i)) ++ ⟨#[32]⟩) (by rw [ByteArray.size_append, s2]; omega) ?_)
        · rw [freshetref05_Show.l0, if_pos (by omega), if_pos (by omega), if_pos (by omega)]
        · rw [joinB_snoc, if_neg (fun h => by
            have := congrArg List.length h
            rw [parts_len, List.length_take] at this
            have h9 : min i e.length = 0 := this
            omega)]
  have h := main e.length 0 (by omega)
  have e0 : joinB (partsE (e.take 0)) = ⟨#[]⟩ := by simp [partsE, joinB, Lib.join_nil]
  rw [e0] at h
  exact Ev.congr (fun k => rfl) h
end Go.Proofs.YtakcjiinchghaaaGreatDoor
end
section
namespace Go.Proofs.YtakcjiinchghaaaGreatDoor
set_option linter.unusedVariables false
set_option linter.unusedSimpArgs false
open Go.RowKit Go.Proofs.YtakcjiinchghaaaGreatDoorW.PrintWords Go.Proofs.YtakcjiinchghaaaGreatDoorW.PrintLast PRW PRM PEMS
theorem steps_ev (l : List S41) (hl : l.length ≤ 5000) : Ev (fun k => freshetlaw05_steps.f k l l) true := by
  have main : ∀ n i : Nat, i + n = l.length → Ev (fun k => freshetlaw05_steps.l0 k l l (i : Int)) true := by
    intro n
    induction n with
    | zero =>
      intro i hi
      refine Ev.step (f := fun _ => some true) (fun k => ?_) (Ev.now _)
      rw [freshetlaw05_steps.l0, if_neg (by omega)]
    | succ n ih =>
      intro i hi
      refine Ev.step (fun k => ?_) (ih (i + 1) (by omega))
      rw [freshetlaw05_steps.l0, if_pos (by omega), if_pos (by omega), if_pos (by omega), if_neg (by simp), wn4 i (by omega)]
  refine Ev.congr (fun k => ?_) (main l.length 0 (by omega))
  rw [freshetlaw05_steps.f, if_pos rfl]; rfl
theorem same5_ev (l : List Int) (hl : l.length ≤ 5000) : Ev (fun k => freshetlaw05_same.f k l l) true := by
  have main : ∀ n i : Nat, i + n = l.length → Ev (fun k => freshetlaw05_same.l0 k l l (i : Int)) true := by
    intro n
    induction n with
    | zero =>
      intro i hi
      refine Ev.step (f := fun _ => some true) (fun k => ?_) (Ev.now _)
      rw [freshetlaw05_same.l0, if_neg (by omega)]
    | succ n ih =>
      intro i hi
      refine Ev.step (fun k => ?_) (ih (i + 1) (by omega))
      rw [freshetlaw05_same.l0, if_pos (by omega), if_pos (by omega), if_pos (by omega), if_pos rfl, wn4 i (by omega)]
  refine Ev.congr (fun k => ?_) (main l.length 0 (by omega))
  rw [freshetlaw05_same.f, if_pos rfl]; rfl
theorem moves_ev (e : List S41) (to_ : List Int) (re : rngD e = true) (rc : rngC e = true) : Ev (fun k => freshetlaw05_ExprMoves.f k e to_) true := by
  by_cases hl : (e.length : Int) > 4100
  · refine Ev.congr (f := fun _ => some true) (fun k => ?_) (Ev.now _)
    unfold freshetlaw05_ExprMoves.f xAwake5.f
    simp only [Option.bind_some, if_true]
    rw [if_pos hl]
  have hr : ∀ d ∈ e, I64 d.f0 ∧ I64 d.f1 ∧ I64 d.f2.f1 := fun d hd => by
    have h1 := List.all_eq_true.1 rc d hd
    simp only [Bool.and_eq_true, decide_eq_true_eq] at h1
    have h2 := rngD_at re d hd
    exact ⟨⟨h1.1, h1.2⟩, h2.1, h2.2.1⟩
  have hcl : (colsE e).length ≤ 5000 := by
    unfold colsE
    exact Nat.le_trans (compact_len _) (by rw [List.length_mergeSort]; have := names_len e; omega)
  have hml : (moveE e to_).length ≤ 5000 := by unfold moveE; split <;> simp; omega
  have hz := joinB_size e hr e.length (Nat.le_refl _)
  rw [List.take_length] at hz
  have hS : xEShow.f e = some (joinB (partsE e)) := by
    unfold xEShow.f
    rw [if_pos ⟨re, rc, by omega, List.all_eq_true.2 fun d hd => decide_eq_true (Nat.le_trans (stepS_le d (hr d hd).1 (hr d hd).2.1 (hr d hd).2.2) (by omega))⟩]
    unfold xJoin.f
    rw [if_pos]
    · rfl
    · refine ⟨by rw [parts_len]; omega, ?_⟩
      unfold joinB at hz
      rw [mk_size] at hz
      have : (Lib.join (List.map (fun x => x.data.toList) (partsE e)) (⟨#[32]⟩ : ByteArray).data.toList).length ≤ e.length * 17200 := hz
      omega
  have fin : Ev (fun k => ((xMove.f e to_).bind fun bt103 => ((xRMove.f e to_).bind fun bt107 => ((freshetlaw05_steps.f k bt103.1 bt107.1).bind fun t111 => (if t111 = true then (if bt103.2 = bt107.2 then ((xCols.f e).bind fun t112 => ((xRCols.f e).bind fun t115 => ((freshetlaw05_same.f k t112 t115).bind fun t118 => (if t118 = true then ((xEShow.f e).bind fun t119 => ((freshetref05_Show.f k e).bind fun t120 => (some (t119.toList == t120.toList)))) else (some false))))) else (some false)) else (some false)))))) true := by
    have hM : xMove.f e to_ = some (moveE e to_, moveF e to_) := if_pos (by omega)
    have hC : xCols.f e = some (colsE e) := if_pos (by omega)
    have hRM : xRMove.f e to_ = some (moveE e to_, moveF e to_) := if_pos (by omega)
    rw [hM, hRM, hC, show xRCols.f e = some (colsE e) from if_pos (by omega), hS]
    simp only [Option.bind_some]
    refine Ev.bind (steps_ev _ hml) ?_
    refine Ev.congr (f := fun k => ((freshetlaw05_same.f k (colsE e) (colsE e)).bind fun t118 => (if t118 = true then ((freshetref05_Show.f k e).bind fun t120 => (some ((joinB (partsE e)).toList == t120.toList))) else (some false)))) (fun k => ?_) (Ev.bind (same5_ev _ hcl) ?_)
    · rw [if_pos rfl, if_pos trivial]
    · refine Ev.congr (f := fun k => (freshetref05_Show.f k e).bind fun t120 => (some ((joinB (partsE e)).toList == t120.toList))) (fun k => if_pos rfl) (Ev.bind (rshow_ev e (by omega) re rc) (Ev.congr (f := fun _ => some true) (fun k => by simp) (Ev.now _)))
  have main : ∀ n i : Nat, i + n = e.length → ∀ x5 : Int, Ev (fun k => freshetlaw05_ExprMoves.l0 k e to_ x5 (i : Int)) true := by
    intro n
    induction n with
    | zero =>
      intro i hi x5
      refine Ev.step (fun k => ?_) fin
      rw [freshetlaw05_ExprMoves.l0, if_neg (by omega)]
    | succ n ih =>
      intro i hi x5
      by_cases hb : wrap64 (x5 + (((rd_T41 e (i : Int)).f2.f3).size : Int)) > 16384
      · refine Ev.step (f := fun _ => some true) (fun k => ?_) (Ev.now _)
        rw [freshetlaw05_ExprMoves.l0, if_pos (by omega), if_pos (by omega), if_pos hb]
      · refine Ev.step (fun k => ?_) (ih (i + 1) (by omega) (wrap64 (x5 + (((rd_T41 e (i : Int)).f2.f3).size : Int))))
        rw [freshetlaw05_ExprMoves.l0, if_pos (by omega), if_pos (by omega), if_neg hb, wn4 i (by omega)]
  refine Ev.congr (fun k => ?_) (main e.length 0 (by omega) 0)
  unfold freshetlaw05_ExprMoves.f xAwake5.f
  simp only [Option.bind_some, if_true]
  rw [if_neg hl]; rfl
theorem walkExprMoves (w : World) (A0 : Option Addr) (c0 : Nat) (L0 : List S41) (hc0 : L0.length ≤ c0) (hr0 : Kd.C k41 w A0 L0.length L0) (hg0 : rngD L0 = true ∧ rngC L0 = true) (hz0 : L0.length ≤ 2513169434843)
    (A1 : Option Addr) (c1 : Nat) (L1 : List Int) (hc1 : L1.length ≤ c1) (hr1 : Kd.C (Kd.int .i64) w A1 L1.length L1) (hg1 : ∀ x ∈ L1, I64 x) (ht : ETab w) :
    Calls Tryz.prog 5 #[.slice A0 L0.length c0, .slice A1 L1.length c1] w fun e w' => e = .returned (.bool true) ∧ Below w.heap.size w w' := by
  obtain ⟨k, hk⟩ := (moves_ev L0 L1 hg0.1 hg0.2).rounds
  exact freshetlaw05_ExprMoves.calls k A0 c0 L0 A1 c1 L1 true w hr0 hc0 hr1 hc1 ht hk
end Go.Proofs.YtakcjiinchghaaaGreatDoor
end
