/- row.Pick, in plain words. -/
import Derived.Test.YthpkjkcfhipjhaaGreatDoorRQ1
namespace Go.Proofs.YthpkjkcfhipjhaaGreatDoor
set_option linter.unusedVariables false
set_option linter.unusedSimpArgs false
open Go.RowKit Go.Proofs.YthpkjkcfhipjhaaGreatDoorW.PrintWords Go.Proofs.YthpkjkcfhipjhaaGreatDoorW.PrintLast PRW

theorem rdI_at (L : List Int) (i : Nat) (h : i < L.length) : rd L (i : Int) = L[i] := by unfold rd; simp [h]
/-- a column of the row -/
def inR (l : List S64) (c : Int) : Bool := decide (0 ≤ c) && decide (c < (l.length : Int))
theorem inR_iff (l : List S64) (c : Int) : inR l c = true ↔ 0 ≤ c ∧ c < (l.length : Int) := by unfold inR; simp
def pickC (l : List S64) (cols : List Int) : List S64 × Int := if cols.all (inR l) then (cols.map (fun c => rd_T64 l c), 0) else ([], 1)
def pickP (l : List S64) (cols : List Int) : List S64 × Int := if soundL l && decide (cols.length ≤ 1024) then pickC l cols else ([], 1)

theorem take_all {α : Type} (p : α → Bool) (l : List α) (i : Nat) (h : i < l.length) (ht : (l.take i).all p = true) (hp : p l[i] = true) : (l.take (i + 1)).all p = true := by
  rw [List.take_succ_eq_append_getElem h, List.all_append, ht]; simp [hp]
theorem not_all {α : Type} (p : α → Bool) (l : List α) (i : Nat) (h : i < l.length) (hp : p l[i] = false) : l.all p = false := by
  rw [List.all_eq_false]; exact ⟨l[i], List.getElem_mem h, by simp [hp]⟩

theorem pickl_ev (l : List S64) (cols : List Int) (hc : cols.length ≤ 1024) : ∀ d i : Nat, i + d = cols.length → (cols.take i).all (inR l) = true →
    Ev (fun k => row_Pick.l0 k l ((cols.take i).map (fun c => rd_T64 l c)) cols (cols.length : Int) (i : Int)) (pickC l cols) := by
  intro d
  induction d with
  | zero =>
    intro i hi ht
    rw [List.take_of_length_le (by omega)] at ht ⊢
    have e : pickC l cols = (cols.map (fun c => rd_T64 l c), 0) := by unfold pickC; rw [ht]; rfl
    rw [e]
    refine Ev.step (f := fun _ => some _) (fun k => ?_) (Ev.now _)
    simp only [row_Pick.l0]
    rw [if_neg (by omega)]
  | succ d ih =>
    intro i hi ht
    have h1 : i < cols.length := by omega
    have hb := rdI_at cols i h1
    by_cases hp : inR l cols[i] = true
    · have hp2 := (inR_iff _ _).1 hp
      refine Ev.step (fun k => ?_) (ih (i + 1) (by omega) (take_all _ _ _ h1 ht hp))
      simp only [row_Pick.l0]
      rw [if_pos (by omega), if_pos (by omega), if_pos (by omega), hb, if_neg (by omega), if_neg (by omega), if_pos hp2.1, if_pos hp2.2, if_pos (by rw [List.length_map, List.length_take]; omega), w64k (by omega) (by omega), List.take_succ_eq_append_getElem h1, List.map_append]
      rfl
    · have hp0 : inR l cols[i] = false := by simpa using hp
      have hp2 : ¬ (0 ≤ cols[i] ∧ cols[i] < (l.length : Int)) := fun h => hp ((inR_iff _ _).2 h)
      have e : pickC l cols = ([], 1) := by unfold pickC; rw [not_all _ _ i h1 hp0]; rfl
      rw [e]
      refine Ev.step (f := fun _ => some _) (fun k => ?_) (Ev.now _)
      simp only [row_Pick.l0]
      rw [if_pos (by omega), if_pos (by omega), if_pos (by omega), hb]
      by_cases h0 : cols[i] < 0
      · rw [if_pos h0]
      · rw [if_neg h0, if_pos (by omega)]

theorem pick_ev (l : List S64) (cols : List Int) (hr : rngL l = true) : Ev (fun k => row_Pick.f k l cols) (pickP l cols) := by
  have hS : xRowSound.f l = some (soundL l) := by unfold xRowSound.f; rw [if_pos hr]
  have J1 : Ev (fun k => row_Pick.j0 k l cols true) (([] : List S64), (1 : Int)) := by
    refine Ev.step (f := fun _ => some _) (fun k => ?_) (Ev.now _)
    simp only [row_Pick.j0, if_true]
  cases hs : soundL l
  · have e : pickP l cols = ([], 1) := by unfold pickP; rw [hs]; rfl
    rw [e]
    refine Ev.congr (fun k => ?_) J1
    simp only [row_Pick.f]
    rw [hS, hs, Option.bind_some, if_neg Bool.false_ne_true]
  · by_cases hc : cols.length ≤ 1024
    · have e : pickP l cols = pickC l cols := by unfold pickP; rw [hs, decide_eq_true hc]; rfl
      rw [e]
      have h := pickl_ev l cols hc cols.length 0 (by omega) rfl
      refine Ev.congr (f := fun k => row_Pick.j0 k l cols false) (fun k => ?_) (Ev.step (fun k => ?_) h)
      · simp only [row_Pick.f]
        rw [hS, hs, Option.bind_some, if_pos rfl, decide_eq_false (by omega)]
      · simp only [row_Pick.j0]
        rw [if_neg Bool.false_ne_true]; rfl
    · have e : pickP l cols = ([], 1) := by unfold pickP; rw [hs, decide_eq_false hc]; rfl
      rw [e]
      refine Ev.congr (fun k => ?_) J1
      simp only [row_Pick.f]
      rw [hS, hs, Option.bind_some, if_pos rfl, decide_eq_true (by omega)]

end Go.Proofs.YthpkjkcfhipjhaaGreatDoor
