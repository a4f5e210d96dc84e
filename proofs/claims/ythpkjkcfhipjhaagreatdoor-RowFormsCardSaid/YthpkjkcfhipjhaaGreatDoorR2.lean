/- slices.IndexFunc, ContainsFunc, CompareFunc over a row of values; row.Sound, row.Compare. -/
import Derived.Test.YthpkjkcfhipjhaaGreatDoorMA
import Derived.Test.YthpkjkcfhipjhaaGreatDoorPRWx0
import Derived.Shelf.Abstract
namespace Go.Proofs.YthpkjkcfhipjhaaGreatDoor
set_option linter.unusedVariables false
set_option linter.unusedSimpArgs false
open Go.RowKit Go.Proofs.YthpkjkcfhipjhaaGreatDoorW.PrintWords Go.Proofs.YthpkjkcfhipjhaaGreatDoorW.PrintLast PRW

theorem hidF {p : Prop} (h : p) : Hid p := h
/-- a value's four words, as one value of the machine -/
def vv (x : S64) : Value := .agg #[.int .i64 x.f0, .int .i64 x.f1, .int .u64 x.f2, .string x.f3]
/-- function g tells p of a value -/
def ValPred (g : Nat) (p : S64 → Bool) : Prop := ∀ (x : S64) (W : World), I64 x.f1 → Calls Tryz.prog g #[.agg #[.int .i64 x.f0, .int .i64 x.f1, .int .u64 x.f2, .string x.f3]] W fun e w' => e = .returned (.bool (p x)) ∧ Below W.heap.size W w'

/-- the first place where p holds; -1: nowhere -/
def idxP {α : Type} (p : α → Bool) : List α → Int → Int
  | [], _ => -1
  | x :: t, i => if p x then i else idxP p t (i + 1)

theorem rd_getV (L : List S64) (i : Nat) (h : i < L.length) : rd_T64 L (i : Int) = L[i] := by unfold rd_T64; simp [h]

def natOf : Value → Nat
  | .int _ n => n.toNat
  | _ => 0

theorem drop_rd (L : List S64) (c : Int) (h0 : 0 ≤ c) (h : c < L.length) : L.drop c.toNat = rd_T64 L c :: L.drop (c + 1).toNat := by
  have h' : c.toNat < L.length := by omega
  rw [List.drop_eq_getElem_cons h', show (c + 1).toNat = c.toNat + 1 by omega]
  unfold rd_T64
  simp [h']
theorem rd_mem (L : List S64) (c : Int) (h0 : 0 ≤ c) (h : c < L.length) : rd_T64 L c ∈ L := by
  have h' : c.toNat < L.length := by omega
  unfold rd_T64
  simp [h']

set_option maxRecDepth 100000 in
set_option maxHeartbeats 1000000 in
theorem indexFunc_c (g : Nat) (eg : ∀ args w, (callFunc g args).run Tryz.prog w = .ok (.enter g args) w) (p : S64 → Bool) (hp : ValPred g p) (A0 : Option Addr) (c0 : Nat) (l : List S64) (w : World)
    (hr : Kd.C k64 w A0 l.length l) (hI : ∀ x ∈ l, I64 x.f1) :
    Calls Tryz.prog 87 #[.slice A0 l.length c0, .func (.func g) #[] #[]] w fun e w' => e = .returned (.int .i64 (idxP p l 0)) ∧ Below w.heap.size w w' := by
  have HR := hidF hr
  have HI := hidF hI
  have hl : l.length ≤ 9223372036854775807 := hr.2.1
  clear hr hI
  have hu := Tryz.underlying64
  go_enter Tryz.func87, Tryz.ntmps87
  go_wp2
  go_loopw [8] (fun v wr => ∃ c : Int, v = Value.int .i64 c ∧ 0 ≤ c ∧ c ≤ l.length ∧ Below w.heap.size w wr ∧ Hid (idxP p l 0 = idxP p (l.drop c.toNat) c)) (fun v _ => l.length - natOf v)
  case atStart => exact ⟨0, rfl, by omega, by omega, Below.refl _ _, hidF (by simp)⟩
  case round =>
    obtain ⟨c, rfl, hc0, hcl, HB, hE⟩ := hrel
    by_cases hlt : c < l.length
    · have hx := HI.out _ (rd_mem l c hc0 hlt)
      have cS := hp (rd_T64 l c) wr hx
      have hD := hidF (drop_rd l c hc0 hlt)
      obtain ⟨ad, e, h0, h1, h2, h3⟩ := at_T64 HR.out c hc0 hlt
      cases e
      replace h0 := (HB.cell (World.block_lt_of_cell? w _ h0)).trans h0
      replace h1 := (HB.cell (World.block_lt_of_cell? w _ h1)).trans h1
      replace h2 := (HB.cell (World.block_lt_of_cell? w _ h2)).trans h2
      replace h3 := (HB.cell (World.block_lt_of_cell? w _ h3)).trans h3
      cases hpc : p (rd_T64 l c)
      · have hE2 : Hid (idxP p l 0 = idxP p (l.drop (c + 1).toNat) (c + 1)) := hidF (by rw [hE.out, hD.out, idxP, hpc]; rfl)
        rw [hpc] at cS
        have CS := hidF cS
        clear cS hpc hE hx
        go_wp2_with (go_at_fn g; refine CS.out.mono ?_; rintro e W' ⟨rfl, hb⟩)
        go_roundw
        case rel => exact ⟨c + 1, rfl, by omega, by omega, HB.trans (hb.mono HB.size), hE2⟩
        case measure => simp [natOf]; omega
      · have hE2 : Hid (idxP p l 0 = c) := hidF (by rw [hE.out, hD.out, idxP, hpc]; rfl)
        rw [hpc] at cS
        have CS := hidF cS
        clear cS hpc hE hx
        go_wp2_with (go_at_fn g; refine CS.out.mono ?_; rintro e W' ⟨rfl, hb⟩)
        go_ret
        exact ⟨by rw [hE2.out] <;> rfl, HB.trans (hb.mono HB.size)⟩
    · have hce : c = l.length := by omega
      have hE2 : Hid (idxP p l 0 = -1) := hidF (by rw [hE.out, hce, List.drop_of_length_le (by omega)]; rfl)
      clear hce
      go_wp2
      go_ret
      exact ⟨by rw [hE2.out] <;> rfl, HB⟩

theorem idxP_any {α : Type} (p : α → Bool) : ∀ (l : List α) (i : Int), 0 ≤ i → decide (idxP p l i ≥ 0) = l.any p
  | [], i, _ => rfl
  | x :: t, i, h => by
    rw [idxP, List.any_cons]
    cases hp : p x
    · simp only [Bool.false_or, Bool.false_eq_true, if_false]; exact idxP_any p t (i + 1) (by omega)
    · simp only [if_true, Bool.true_or]; simpa using h

set_option maxRecDepth 100000 in
theorem containsFunc_c (g : Nat) (eg : ∀ args w, (callFunc g args).run Tryz.prog w = .ok (.enter g args) w) (p : S64 → Bool) (hp : ValPred g p) (A0 : Option Addr) (c0 : Nat) (l : List S64) (w : World)
    (hr : Kd.C k64 w A0 l.length l) (hI : ∀ x ∈ l, I64 x.f1) :
    Calls Tryz.prog 65 #[.slice A0 l.length c0, .func (.func g) #[] #[]] w fun e w' => e = .returned (.bool (l.any p)) ∧ Below w.heap.size w w' := by
  have HH := hidF (indexFunc_c g eg p hp A0 c0 l w hr hI)
  have hA := idxP_any p l 0 (by omega)
  clear hr hI
  have HA := hidF hA
  clear hA
  go_enter Tryz.func65, Tryz.ntmps65
  go_wp2_with (go_at_call 87; refine HH.out.mono ?_; rintro e w' ⟨rfl, hb⟩)
  go_ret
  exact ⟨by rw [← HA.out] <;> rfl, hb⟩

theorem sound1_c : ValPred 66 (fun x => !soundV x.f0 x.f1 x.f2 x.f3) := by
  intro x w hn
  have HH : ∀ W, Calls Tryz.prog 67 #[.agg #[.int .i64 x.f0, .int .i64 x.f1, .int .u64 x.f2, .string x.f3]] W fun e w' => e = .returned (.bool (soundV x.f0 x.f1 x.f2 x.f3)) ∧ Below W.heap.size W w' := fun W => sound_c _ _ _ _ W hn
  go_enter Tryz.func66, Tryz.ntmps66
  go_wp2_with (first | (go_at_call 67; (fail_if_success (have := w1)); ((with_reducible refine (HH _).mono ?_); rintro e w1 ⟨rfl, hb1⟩; (try (replace hb1 := below_undrew hb1)); (try (replace hb1 := below_undrewN hb1)); obtain ⟨hc1, hf1⟩ := bcell hb1; )))
  go_ret
  exact ⟨rfl, (by repeat (first | (with_reducible exact Below.refl _ _) | (with_reducible refine below_al ?_ _) | (with_reducible refine below_drewN ?_ _) | (with_reducible refine Below.drew ?_) | (with_reducible refine below_via (by assumption) ?_) | (with_reducible refine below_sc ?_ ?_ _; · (first | (simp; done) | (simp; omega) | omega))))⟩
theorem enter_sound1 : ∀ args w, (callFunc 66 args).run Tryz.prog w = .ok (.enter 66 args) w := by
  intro args w
  simp [go_sem, Tryz.func66]

/-- whether these are a row -/
def soundL (l : List S64) : Bool := decide (l.length ≤ 1024) && l.all fun x => soundV x.f0 x.f1 x.f2 x.f3

set_option maxRecDepth 100000 in
theorem rowSound_c (A0 : Option Addr) (c0 : Nat) (l : List S64) (w : World) (hr : Kd.C k64 w A0 l.length l) (hI : ∀ x ∈ l, I64 x.f1) :
    Calls Tryz.prog 29 #[.slice A0 l.length c0] w fun e w' => e = .returned (.bool (soundL l)) ∧ Below w.heap.size w w' := by
  have HH := hidF (fun W (hb : Below w.heap.size w W) => containsFunc_c 66 enter_sound1 _ sound1_c A0 c0 l W (Kd.C_below hr hb) hI)
  have hl : l.length ≤ 9223372036854775807 := hr.2.1
  have hA : Hid ((!l.any fun x => !soundV x.f0 x.f1 x.f2 x.f3) = l.all fun x => soundV x.f0 x.f1 x.f2 x.f3) := hidF (by rw [List.not_any_eq_all_not]; simp)
  clear hr hI
  unfold soundL
  by_cases h : l.length ≤ 1024
  · have hd : decide ((l.length : Int) ≤ 1024) = true := decide_eq_true (by omega)
    go_enter Tryz.func29, Tryz.ntmps29
    go_wp2_with (go_at_call 65; refine (HH.out _ (by repeat (first | (with_reducible exact Below.refl _ _) | (with_reducible refine below_al ?_ _) | (with_reducible refine below_drewN ?_ _) | (with_reducible refine Below.drew ?_) | (with_reducible refine below_via (by assumption) ?_) | (with_reducible refine below_sc ?_ ?_ _; · (first | (simp; done) | (simp; omega) | omega))))).mono ?_; rintro e w' ⟨rfl, hb⟩)
    go_ret
    exact ⟨by rw [decide_eq_true h, Bool.true_and, ← hA.out] <;> rfl, (by repeat (first | (with_reducible exact Below.refl _ _) | (with_reducible refine below_al ?_ _) | (with_reducible refine below_drewN ?_ _) | (with_reducible refine Below.drew ?_) | (with_reducible refine below_via (by assumption) ?_) | (with_reducible refine below_sc ?_ ?_ _; · (first | (simp; done) | (simp; omega) | omega))))⟩
  · have hd : decide ((l.length : Int) ≤ 1024) = false := decide_eq_false (by omega)
    go_enter Tryz.func29, Tryz.ntmps29
    go_wp2_with fail
    go_ret
    exact ⟨by rw [decide_eq_false h, Bool.false_and] <;> rfl, (by repeat (first | (with_reducible exact Below.refl _ _) | (with_reducible refine below_al ?_ _) | (with_reducible refine below_drewN ?_ _) | (with_reducible refine Below.drew ?_) | (with_reducible refine below_via (by assumption) ?_) | (with_reducible refine below_sc ?_ ?_ _; · (first | (simp; done) | (simp; omega) | omega))))⟩

end Go.Proofs.YthpkjkcfhipjhaaGreatDoor
