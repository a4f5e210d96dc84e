/- a part of the claim: what the card leans on, out of the texts PZLWx2 (put together by wip/tools/shake.py). -/
import Derived.Test.YthpkjkcfhipjhaaDoorSW2
import Derived.Test.YthpkjkcfhipjhaaDoorSW4
import Derived.Test.YthpkjkcfhipjhaaDoorSW5
import Derived.Test.YthpkjkcfhipjhaaDoorSW6
import Derived.Test.YthpkjkcfhipjhaaDoorSW8
import Derived.Test.YthpkjkcfhipjhaaDoorSW9
import Derived.Test.YthpkjkcfhipjhaaDoorSW11
import Derived.Test.YthpkjkcfhipjhaaDoorSW12
import Derived.Test.YthpkjkcfhipjhaaDoorSW13
import Derived.BigQuiet
import Derived.Deep.QuietTactic
section
namespace Go.Proofs.YthpkjkcfhipjhaaDoor.PZLW
open Go.RowKit Go.Proofs.YthpkjkcfhipjhaaDoorW.PrintWords Go.Proofs.YthpkjkcfhipjhaaDoorW.PrintLast Go.Proofs.YthpkjkcfhipjhaaDoorW.PrintMore Go.Proofs.YthpkjkcfhipjhaaDoor.PRW Go.Proofs.YthpkjkcfhipjhaaDoor.PZA Go.Proofs.YthpkjkcfhipjhaaDoor.PZB
attribute [local go_sem] max2_int min2_int max_two min_two max_three min_three max_four min_four
set_option linter.unusedVariables false
set_option linter.unusedSimpArgs false
mutual
def freshetlaw03_ZsetWeights.l0 : Nat → List (S35) → List (S35) → Int → List (S35) → Int → Option (Bool)
  | 0, _, _, _, _, _ => none
  | k + 1, x0, x3, x4, x5, x6 => if x6 ≥ 0 then (if 0 ≤ x6 then (if x6 < (x0.length : Int) then (if x5.length < 4398046511104 then (freshetlaw03_ZsetWeights.l0 k x0 x3 x4 (x5 ++ [(⟨(rd_T35 x0 x6).f0, (rd_T35 x0 x6).f1⟩ : S35)]) (wrap64 (x6 - 1))) else (none)) else (none)) else (none)) else ((xMake.f x5).bind fun bt113 => (if x4 = bt113.2 then ((freshetref03_Same.f k x3 bt113.1).bind fun t117 => (freshetlaw03_ZsetWeights.j1 k x0 x3 x4 (!t117))) else (freshetlaw03_ZsetWeights.j1 k x0 x3 x4 true)))
def freshetlaw03_ZsetWeights.j1 : Nat → List (S35) → List (S35) → Int → Bool → Option (Bool)
  | 0, _, _, _, _ => none
  | k + 1, x0, x3, x4, x57 => if x57 = true then (some false) else (if x4 = 0 then ((xZSound.f x3).bind fun t118 => (if t118 = true then (freshetlaw03_ZsetWeights.l1 k x0 x3 0) else (some false))) else (some ((x3.length : Int) == 0)))
def freshetlaw03_ZsetWeights.l1 : Nat → List (S35) → List (S35) → Int → Option (Bool)
  | 0, _, _, _ => none
  | k + 1, x0, x3, x9 => if x9 < (x0.length : Int) then (freshetlaw03_ZsetWeights.l2 k x0 x3 x9 0 0 0) else ((zset_Distinct.f k x3).bind fun bt126 => (if bt126.2 = 0 then ((xZSound.f bt126.1).bind fun t130 => (freshetlaw03_ZsetWeights.j4 k x3 bt126.1 (!t130))) else (freshetlaw03_ZsetWeights.j4 k x3 bt126.1 true)))
def freshetlaw03_ZsetWeights.l2 : Nat → List (S35) → List (S35) → Int → Int → Int → Int → Option (Bool)
  | 0, _, _, _, _, _, _ => none
  | k + 1, x0, x3, x9, x10, x11, x12 => if x12 < (x0.length : Int) then (if 0 ≤ x9 then (if x9 < (x0.length : Int) then (if 0 ≤ x12 then ((xSameR.f ((rd_T35 x0 x9).f0) ((rd_T35 x0 x12).f0)).bind fun t121 => (if t121 = true then (freshetlaw03_ZsetWeights.l2 k x0 x3 x9 (wrap64 (x10 + (((rd_T35 x0 x12).f1) / 2147483648))) (wrap64 (x11 + (Go.bits .and .i64 ((rd_T35 x0 x12).f1) 2147483647))) (wrap64 (x12 + 1))) else (freshetlaw03_ZsetWeights.l2 k x0 x3 x9 x10 x11 (wrap64 (x12 + 1))))) else (none)) else (none)) else (none)) else (if 0 ≤ x9 then (if x9 < (x0.length : Int) then ((xWeight.f x3 ((rd_T35 x0 x9).f0)).bind fun t125 => (if (t125 / 2147483648) = (wrap64 (x10 + (x11 / 2147483648))) then (if (Go.bits .and .i64 t125 2147483647) = (Go.bits .and .i64 x11 2147483647) then (freshetlaw03_ZsetWeights.l1 k x0 x3 (wrap64 (x9 + 1))) else (some false)) else (some false))) else (none)) else (none))
def freshetlaw03_ZsetWeights.j4 : Nat → List (S35) → List (S35) → Bool → Option (Bool)
  | 0, _, _, _ => none
  | k + 1, x3, x14, x137 => if x137 = true then (some false) else (freshetlaw03_ZsetWeights.l3 k x3 x14 0)
def freshetlaw03_ZsetWeights.l3 : Nat → List (S35) → List (S35) → Int → Option (Bool)
  | 0, _, _, _ => none
  | k + 1, x3, x14, x15 => if x15 < (x3.length : Int) then (if 0 ≤ x15 then ((xWeight.f x14 ((rd_T35 x3 x15).f0)).bind fun t132 => (if ((t132 == 1) != (decide (((rd_T35 x3 x15).f1) > 0))) = true then (some false) else (if t132 > 1 then (some false) else (if t132 < 0 then (some false) else (freshetlaw03_ZsetWeights.l3 k x3 x14 (wrap64 (x15 + 1))))))) else (none)) else (some (decide ((x14.length : Int) ≤ (x3.length : Int))))
end
def freshetlaw03_ZsetWeights.f (k : Nat) (l0 : List (S35)) : Option (Bool) := (xAwake3.f).bind fun t101 => (if t101 = true then (if (l0.length : Int) > 200 then (some true) else ((xMake.f l0).bind fun bt102 => (if 0 ≤ (l0.length : Int) then (if ((l0.length : Int) : Int).toNat ≤ 8796093022208 then (freshetlaw03_ZsetWeights.l0 k l0 bt102.1 bt102.2 (([] : List (S35))) (wrap64 ((l0.length : Int) - 1))) else (none)) else (none)))) else (some false))
theorem freshetlaw03_ZsetWeights.mono_l : ∀ k, (∀ y0 y1 y2 y3 y4, LeO (freshetlaw03_ZsetWeights.l0 k y0 y1 y2 y3 y4) (freshetlaw03_ZsetWeights.l0 (k + 1) y0 y1 y2 y3 y4)) ∧ (∀ y0 y1 y2 y3, LeO (freshetlaw03_ZsetWeights.j1 k y0 y1 y2 y3) (freshetlaw03_ZsetWeights.j1 (k + 1) y0 y1 y2 y3)) ∧ (∀ y0 y1 y2, LeO (freshetlaw03_ZsetWeights.l1 k y0 y1 y2) (freshetlaw03_ZsetWeights.l1 (k + 1) y0 y1 y2)) ∧ (∀ y0 y1 y2 y3 y4 y5, LeO (freshetlaw03_ZsetWeights.l2 k y0 y1 y2 y3 y4 y5) (freshetlaw03_ZsetWeights.l2 (k + 1) y0 y1 y2 y3 y4 y5)) ∧ (∀ y0 y1 y2, LeO (freshetlaw03_ZsetWeights.j4 k y0 y1 y2) (freshetlaw03_ZsetWeights.j4 (k + 1) y0 y1 y2)) ∧ (∀ y0 y1 y2, LeO (freshetlaw03_ZsetWeights.l3 k y0 y1 y2) (freshetlaw03_ZsetWeights.l3 (k + 1) y0 y1 y2))
  | 0 => ⟨fun _ _ _ _ _ r h => by simp [freshetlaw03_ZsetWeights.l0] at h, fun _ _ _ _ r h => by simp [freshetlaw03_ZsetWeights.j1] at h, fun _ _ _ r h => by simp [freshetlaw03_ZsetWeights.l1] at h, fun _ _ _ _ _ _ r h => by simp [freshetlaw03_ZsetWeights.l2] at h, fun _ _ _ r h => by simp [freshetlaw03_ZsetWeights.j4] at h, fun _ _ _ r h => by simp [freshetlaw03_ZsetWeights.l3] at h⟩
  | k + 1 => by
    obtain ⟨ih0, ih1, ih2, ih3, ih4, ih5⟩ := freshetlaw03_ZsetWeights.mono_l k
    refine ⟨?_, ?_, ?_, ?_, ?_, ?_⟩
    · intro y0 y1 y2 y3 y4
      unfold freshetlaw03_ZsetWeights.l0
      repeat' first
      | (with_reducible exact ih0 _ _ _ _ _)
      | (with_reducible exact ih1 _ _ _ _)
      | (with_reducible exact ih2 _ _ _)
      | (with_reducible exact ih3 _ _ _ _ _ _)
      | (with_reducible exact ih4 _ _ _)
      | (with_reducible exact ih5 _ _ _)
      | (with_reducible exact freshetref03_Same.mono _ _ _)
      | (with_reducible exact zset_Distinct.mono _ _)
      | (with_reducible exact LeO.refl _)
      | (with_reducible exact LeO.none _)
      | (with_reducible refine LeO.ite ?_ ?_)
      | (with_reducible refine LeO.bind ?_ (fun _ => ?_))
      | exact ih0 _ _ _ _ _
      | exact ih1 _ _ _ _
      | exact ih2 _ _ _
      | exact ih3 _ _ _ _ _ _
      | exact ih4 _ _ _
      | exact ih5 _ _ _
      | exact freshetref03_Same.mono _ _ _
      | exact zset_Distinct.mono _ _
      | exact LeO.none _
      | refine LeO.ite ?_ ?_
      | refine LeO.bind ?_ (fun _ => ?_)
    · intro y0 y1 y2 y3
      unfold freshetlaw03_ZsetWeights.j1
      repeat' first
      | (with_reducible exact ih0 _ _ _ _ _)
      | (with_reducible exact ih1 _ _ _ _)
      | (with_reducible exact ih2 _ _ _)
      | (with_reducible exact ih3 _ _ _ _ _ _)
      | (with_reducible exact ih4 _ _ _)
      | (with_reducible exact ih5 _ _ _)
      | (with_reducible exact freshetref03_Same.mono _ _ _)
      | (with_reducible exact zset_Distinct.mono _ _)
      | (with_reducible exact LeO.refl _)
      | (with_reducible exact LeO.none _)
      | (with_reducible refine LeO.ite ?_ ?_)
      | (with_reducible refine LeO.bind ?_ (fun _ => ?_))
      | exact ih0 _ _ _ _ _
      | exact ih1 _ _ _ _
      | exact ih2 _ _ _
      | exact ih3 _ _ _ _ _ _
      | exact ih4 _ _ _
      | exact ih5 _ _ _
      | exact freshetref03_Same.mono _ _ _
      | exact zset_Distinct.mono _ _
      | exact LeO.none _
      | refine LeO.ite ?_ ?_
      | refine LeO.bind ?_ (fun _ => ?_)
    · intro y0 y1 y2
      unfold freshetlaw03_ZsetWeights.l1
      repeat' first
      | (with_reducible exact ih0 _ _ _ _ _)
      | (with_reducible exact ih1 _ _ _ _)
      | (with_reducible exact ih2 _ _ _)
      | (with_reducible exact ih3 _ _ _ _ _ _)
      | (with_reducible exact ih4 _ _ _)
      | (with_reducible exact ih5 _ _ _)
      | (with_reducible exact freshetref03_Same.mono _ _ _)
      | (with_reducible exact zset_Distinct.mono _ _)
      | (with_reducible exact LeO.refl _)
      | (with_reducible exact LeO.none _)
      | (with_reducible refine LeO.ite ?_ ?_)
      | (with_reducible refine LeO.bind ?_ (fun _ => ?_))
      | exact ih0 _ _ _ _ _
      | exact ih1 _ _ _ _
      | exact ih2 _ _ _
      | exact ih3 _ _ _ _ _ _
      | exact ih4 _ _ _
      | exact ih5 _ _ _
      | exact freshetref03_Same.mono _ _ _
      | exact zset_Distinct.mono _ _
      | exact LeO.none _
      | refine LeO.ite ?_ ?_
      | refine LeO.bind ?_ (fun _ => ?_)
    · intro y0 y1 y2 y3 y4 y5
      unfold freshetlaw03_ZsetWeights.l2
      repeat' first
      | (with_reducible exact ih0 _ _ _ _ _)
      | (with_reducible exact ih1 _ _ _ _)
      | (with_reducible exact ih2 _ _ _)
      | (with_reducible exact ih3 _ _ _ _ _ _)
      | (with_reducible exact ih4 _ _ _)
      | (with_reducible exact ih5 _ _ _)
      | (with_reducible exact freshetref03_Same.mono _ _ _)
      | (with_reducible exact zset_Distinct.mono _ _)
      | (with_reducible exact LeO.refl _)
      | (with_reducible exact LeO.none _)
      | (with_reducible refine LeO.ite ?_ ?_)
      | (with_reducible refine LeO.bind ?_ (fun _ => ?_))
      | exact ih0 _ _ _ _ _
      | exact ih1 _ _ _ _
      | exact ih2 _ _ _
      | exact ih3 _ _ _ _ _ _
      | exact ih4 _ _ _
      | exact ih5 _ _ _
      | exact freshetref03_Same.mono _ _ _
      | exact zset_Distinct.mono _ _
      | exact LeO.none _
      | refine LeO.ite ?_ ?_
      | refine LeO.bind ?_ (fun _ => ?_)
    · intro y0 y1 y2
      unfold freshetlaw03_ZsetWeights.j4
      repeat' first
      | (with_reducible exact ih0 _ _ _ _ _)
      | (with_reducible exact ih1 _ _ _ _)
      | (with_reducible exact ih2 _ _ _)
      | (with_reducible exact ih3 _ _ _ _ _ _)
      | (with_reducible exact ih4 _ _ _)
      | (with_reducible exact ih5 _ _ _)
      | (with_reducible exact freshetref03_Same.mono _ _ _)
      | (with_reducible exact zset_Distinct.mono _ _)
      | (with_reducible exact LeO.refl _)
      | (with_reducible exact LeO.none _)
      | (with_reducible refine LeO.ite ?_ ?_)
      | (with_reducible refine LeO.bind ?_ (fun _ => ?_))
      | exact ih0 _ _ _ _ _
      | exact ih1 _ _ _ _
      | exact ih2 _ _ _
      | exact ih3 _ _ _ _ _ _
      | exact ih4 _ _ _
      | exact ih5 _ _ _
      | exact freshetref03_Same.mono _ _ _
      | exact zset_Distinct.mono _ _
      | exact LeO.none _
      | refine LeO.ite ?_ ?_
      | refine LeO.bind ?_ (fun _ => ?_)
    · intro y0 y1 y2
      unfold freshetlaw03_ZsetWeights.l3
      repeat' first
      | (with_reducible exact ih0 _ _ _ _ _)
      | (with_reducible exact ih1 _ _ _ _)
      | (with_reducible exact ih2 _ _ _)
      | (with_reducible exact ih3 _ _ _ _ _ _)
      | (with_reducible exact ih4 _ _ _)
      | (with_reducible exact ih5 _ _ _)
      | (with_reducible exact freshetref03_Same.mono _ _ _)
      | (with_reducible exact zset_Distinct.mono _ _)
      | (with_reducible exact LeO.refl _)
      | (with_reducible exact LeO.none _)
      | (with_reducible refine LeO.ite ?_ ?_)
      | (with_reducible refine LeO.bind ?_ (fun _ => ?_))
      | exact ih0 _ _ _ _ _
      | exact ih1 _ _ _ _
      | exact ih2 _ _ _
      | exact ih3 _ _ _ _ _ _
      | exact ih4 _ _ _
      | exact ih5 _ _ _
      | exact freshetref03_Same.mono _ _ _
      | exact zset_Distinct.mono _ _
      | exact LeO.none _
      | refine LeO.ite ?_ ?_
      | refine LeO.bind ?_ (fun _ => ?_)
theorem freshetlaw03_ZsetWeights.mono : ∀ a0 k, LeO (freshetlaw03_ZsetWeights.f k a0) (freshetlaw03_ZsetWeights.f (k + 1) a0) := by
  intro a0 k
  obtain ⟨ih0, ih1, ih2, ih3, ih4, ih5⟩ := freshetlaw03_ZsetWeights.mono_l k
  unfold freshetlaw03_ZsetWeights.f
  repeat' first
      | (with_reducible exact ih0 _ _ _ _ _)
      | (with_reducible exact ih1 _ _ _ _)
      | (with_reducible exact ih2 _ _ _)
      | (with_reducible exact ih3 _ _ _ _ _ _)
      | (with_reducible exact ih4 _ _ _)
      | (with_reducible exact ih5 _ _ _)
      | (with_reducible exact freshetref03_Same.mono _ _ _)
      | (with_reducible exact zset_Distinct.mono _ _)
      | (with_reducible exact LeO.refl _)
      | (with_reducible exact LeO.none _)
      | (with_reducible refine LeO.ite ?_ ?_)
      | (with_reducible refine LeO.bind ?_ (fun _ => ?_))
      | exact ih0 _ _ _ _ _
      | exact ih1 _ _ _ _
      | exact ih2 _ _ _
      | exact ih3 _ _ _ _ _ _
      | exact ih4 _ _ _
      | exact ih5 _ _ _
      | exact freshetref03_Same.mono _ _ _
      | exact zset_Distinct.mono _ _
      | exact LeO.none _
      | refine LeO.ite ?_ ?_
      | refine LeO.bind ?_ (fun _ => ?_)
def freshetlaw03_ZsetWeights.T26 : Bool × List (List Nat × List Nat) := (true, [([], []), ([], []), ([0, 1], [0, 1]), ([2], [2]), ([3], [3]), ([], []), ([], []), ([5, 6], [5, 6]), ([7], [7]), ([8], [8]), ([4, 9], [4, 9])])
def freshetlaw03_ZsetWeights.B26 : List Nat := [0, 0, 3, 7, 15, 0, 0, 96, 224, 480, 1023]
theorem freshetlaw03_ZsetWeights.tab26 : rtab .any (opsOf Tryd.f4 26) = freshetlaw03_ZsetWeights.T26 := by kernel_rfl
theorem freshetlaw03_ZsetWeights.bits26 : waitsOk freshetlaw03_ZsetWeights.T26.2 freshetlaw03_ZsetWeights.B26 = true := by kernel_rfl
set_option maxHeartbeats 8000000 in
set_option maxRecDepth 100000 in
theorem freshetlaw03_ZsetWeights.calls (k : Nat) (P0_ : Nat → Prop) (A0 : Option Addr) (c0 : Nat) (l0 : List (S35)) (r : Bool) (w : World) (hs0 : Kd.V k35 35 w w.heap.size (fun k_ => P0_ k_) (.slice A0 l0.length c0) l0) (hT : RTab w) (h : freshetlaw03_ZsetWeights.f k l0 = some r) :
    Calls Tryd.prog 4 #[.slice A0 l0.length c0] w fun e w' => e = .returned (.bool r) ∧ Below w.heap.size w w' := by
  have hu35 := Tryd.underlying35
  have HO0 := Aside0.mk (show Kd.V k35 35 w w.heap.size (fun k_ => (P0_ k_ ∨ w.heap.size ≤ k_)) (.slice A0 l0.length c0) l0 from Kd.V_mono hs0 (fun k_ hk => .inl hk))
  have HB := Aside0.mk (Below.refl w.heap.size w)
  have HT := Aside0.mk hT
  clear hT
  have H : ((xAwake3.f).bind fun t101 => (if t101 = true then (if (l0.length : Int) > 200 then (some true) else ((xMake.f l0).bind fun bt102 => (if 0 ≤ (l0.length : Int) then (if ((l0.length : Int) : Int).toNat ≤ 8796093022208 then (freshetlaw03_ZsetWeights.l0 k l0 bt102.1 bt102.2 (([] : List (S35))) (wrap64 ((l0.length : Int) - 1))) else (none)) else (none)))) else (some false))) = some r := h
  clear h
  replace H := Option.bind_eq_some_iff.mp H
  obtain ⟨t101, A20, H⟩ := H
  replace H : (if t101 = true then (if (l0.length : Int) > 200 then (some true) else ((xMake.f l0).bind fun bt102 => (if 0 ≤ (l0.length : Int) then (if ((l0.length : Int) : Int).toNat ≤ 8796093022208 then (freshetlaw03_ZsetWeights.l0 k l0 bt102.1 bt102.2 (([] : List (S35))) (wrap64 ((l0.length : Int) - 1))) else (none)) else (none)))) else (some false)) = some r := H
  have A2 := Aside0.mk A20
  clear A20
  by_cases c3 : t101 = true
  · subst c3
    have H1 : (if (l0.length : Int) > 200 then (some true) else ((xMake.f l0).bind fun bt102 => (if 0 ≤ (l0.length : Int) then (if ((l0.length : Int) : Int).toNat ≤ 8796093022208 then (freshetlaw03_ZsetWeights.l0 k l0 bt102.1 bt102.2 (([] : List (S35))) (wrap64 ((l0.length : Int) - 1))) else (none)) else (none)))) = some r := by rw [if_pos rfl] at H; exact H
    clear H
    have H := H1
    clear H1
    by_cases c4 : (l0.length : Int) > 200
    · rw [if_pos c4] at H
      have c4b0 : decide (200 < (l0.length : Int)) = true := decide_eq_true c4
      have c4b1 : decide (200 < l0.length) = true := decide_eq_true (by omega)
      clear c4
      obtain rfl := Option.some.inj H
      go_enter Tryd.func4, Tryd.ntmps4
      go_wp2_with (first | ((with_reducible refine gate_callee (f := 10) rfl ?_); refine goesL_ (some 17) rfl rfl Tryd.func10 (by kernel_rfl) rfl #[] rfl (by (try simp only [List.map_toArray, List.map_cons, List.map_nil]); first | done | rfl | (simp only [List.length_drop, List.length_take]; rfl)) ?_; (with_reducible refine (xAwake3.calls  true _ ?side1 A2.out).mono ?_); (case side1 => first | exact HT.out | exact tab_at HT.out (by repeat (first | (with_reducible first | exact HB.out | apply below_alloc | apply pw_below_drewN | apply below_drew1) | exact HB.out)) | (repeat (first | exact HT.out | refine tab_drewN ?_ | refine tab_drew ?_))); rintro e w5 ⟨rfl, hb⟩; refine ⟨_, rfl, ?_⟩; have n0_ := Aside0.mk (Kd.V_below (by (with_reducible repeat (first | apply Kd.V_alloc | apply Kd.V_drewN | apply Kd.V_drew)); exact HO0.out) hb); have n1_ := Aside0.mk (below_step (by repeat (first | (with_reducible first | exact HB.out | apply below_alloc | apply pw_below_drewN | apply below_drew1) | exact HB.out)) hb); clear HO0; clear HB; have HO0 := n0_; have HB := n1_; clear n0_ n1_; (try clear hb); (try clear hb2); (try clear hk); (try clear hi)))
      go_ret
      exact ⟨by first | rfl | (simp [errW_none, errW_some] <;> rfl) | (simp [*, errW_none, errW_some] <;> rfl), by repeat (first | (with_reducible first | exact HB.out | apply below_alloc | apply pw_below_drewN | apply below_drew1) | exact HB.out)⟩
    · rw [if_neg c4] at H
      have c4b0 : decide (200 < (l0.length : Int)) = false := decide_eq_false c4
      have c4b1 : decide (200 < l0.length) = false := decide_eq_false (by omega)
      clear c4
      replace H := Option.bind_eq_some_iff.mp H
      obtain ⟨⟨t102, t103⟩, A60, H⟩ := H
      replace H : (if 0 ≤ (l0.length : Int) then (if ((l0.length : Int) : Int).toNat ≤ 8796093022208 then (freshetlaw03_ZsetWeights.l0 k l0 t102 t103 (([] : List (S35))) (wrap64 ((l0.length : Int) - 1))) else (none)) else (none)) = some r := H
      have A6 := Aside0.mk A60
      clear A60
      by_cases c7 : 0 ≤ (l0.length : Int)
      · rw [if_pos c7] at H
        have c7b0 := eq_true c7
        have c7b1 : decide (0 ≤ (l0.length : Int)) = true := decide_eq_true c7
        clear c7
        by_cases c8 : ((l0.length : Int) : Int).toNat ≤ 8796093022208
        · rw [if_pos c8] at H
          have c8b0 := eq_true c8
          have c8b1 : decide (((l0.length : Int) : Int).toNat ≤ 8796093022208) = true := decide_eq_true c8
          clear c8
          obtain ⟨y106, hy106⟩ : ∃ y_ : List (S35), y_ = (([] : List (S35))) := ⟨_, rfl⟩
          replace H : (freshetlaw03_ZsetWeights.l0 k l0 t102 t103 y106 (wrap64 ((l0.length : Int) - 1))) = some r := by first | (rw [hy106]; with_reducible exact H) | (have H2_ := (Option.bind_some _ _).symm.trans H; rw [hy106]; with_reducible exact H2_) | (have H2_ := (Option.bind_some _ _).symm.trans H; with_reducible exact H2_) | with_reducible exact H | (rw [hy106]; exact H) | exact H
          have Ny106 := Aside0.mk hy106
          clear hy106
          have H' := Aside0.mk H
          clear H
          go_enter Tryd.func4, Tryd.ntmps4
          go_wp2_with (first | ((with_reducible refine gate_callee (f := 10) rfl ?_); refine goesL_ (some 17) rfl rfl Tryd.func10 (by kernel_rfl) rfl #[] rfl (by (try simp only [List.map_toArray, List.map_cons, List.map_nil]); first | done | rfl | (simp only [List.length_drop, List.length_take]; rfl)) ?_; (with_reducible refine (xAwake3.calls  true _ ?side1 A2.out).mono ?_); (case side1 => first | exact HT.out | exact tab_at HT.out (by repeat (first | (with_reducible first | exact HB.out | apply below_alloc | apply pw_below_drewN | apply below_drew1) | exact HB.out)) | (repeat (first | exact HT.out | refine tab_drewN ?_ | refine tab_drew ?_))); rintro e w9 ⟨rfl, hb⟩; refine ⟨_, rfl, ?_⟩; have n0_ := Aside0.mk (Kd.V_below (by (with_reducible repeat (first | apply Kd.V_alloc | apply Kd.V_drewN | apply Kd.V_drew)); exact HO0.out) hb); have n1_ := Aside0.mk (below_step (by repeat (first | (with_reducible first | exact HB.out | apply below_alloc | apply pw_below_drewN | apply below_drew1) | exact HB.out)) hb); clear HO0; clear HB; have HO0 := n0_; have HB := n1_; clear n0_ n1_; (try clear hb); (try clear hb2); (try clear hk); (try clear hi)) | ((with_reducible refine gate_callee (f := 15) rfl ?_); refine goesL_ (some 24) rfl rfl Tryd.func15 (by kernel_rfl) rfl #[.slice A0 l0.length c0] rfl (by (try simp only [List.map_toArray, List.map_cons, List.map_nil]); first | done | rfl | (simp only [List.length_drop, List.length_take]; rfl)) ?_; (with_reducible refine (xMake.calls _ _ l0 t102 t103 _ ?side1 ?side2 A6.out).mono ?_); (case side1 => repeat (first | exact (Kd.V_reads' HO0.out).2.2 | (with_reducible refine Kd.C_alloc ?_ _) | (with_reducible refine Kd.C_drewN ?_ _) | (with_reducible refine Kd.C_drew ?_))); (case side2 => exact (Kd.V_reads' HO0.out).2.1); rintro e w10 ⟨v104, rfl, ho0, hb⟩; refine ⟨_, rfl, ?_⟩; have n0_ := Aside0.mk (Kd.V_elder' (by (with_reducible repeat (first | apply Kd.V_alloc | apply Kd.V_drewN | apply Kd.V_drew)); exact HO0.out) (Kd.R_base ho0) hb); have n1_ := Aside0.mk (Kd.N_lower (Kd.N_mono (ok' := fun k_ => (P0_ k_ ∨ w.heap.size ≤ k_)) (Kd.R_N (Kd.R_bound ho0)) (fun k_ hk_ => (.inr (Nat.le_trans (below_size (by repeat (first | (with_reducible first | exact HB.out | apply below_alloc | apply pw_below_drewN | apply below_drew1) | exact HB.out))) hk_.2.1)))) (below_size (by repeat (first | (with_reducible first | exact HB.out | apply below_alloc | apply pw_below_drewN | apply below_drew1) | exact HB.out)))); have n2_ := Aside0.mk (below_step (by repeat (first | (with_reducible first | exact HB.out | apply below_alloc | apply pw_below_drewN | apply below_drew1) | exact HB.out)) hb); clear HO0; clear HB; have HO0 := n0_; have HO105 := n1_; have HB := n2_; clear n0_ n1_ n2_; (try clear hb); (try clear hb2); (try clear hk); (try clear hi); (try clear ho0)) | ((with_reducible refine gate_dst (N := 29) rfl ?_); refine Kd.N_make0 k35 _ 35 rfl (N' := 29) rfl 22 _ _ rfl (l0.length : Int) rfl rfl Tryd.underlying22 (.agg #[(.slice none 0 0), (.int .i64 0)]) 32 info35 rfl (by decide) (by omega) z35 (ok := fun k_ => w10.heap.size ≤ k_) (okp := fun _ => False) (k35_mkF _ _ z35 (Nat.le_refl _) (Kd.F_nil _ _ _)) (fun _ hk => hk.elim) (Nat.le_refl _) (of_decide_eq_true (by first | (with_reducible assumption) | assumption)) (Nat.le_trans (Nat.mul_le_mul_right _ (of_decide_eq_true (by first | (with_reducible assumption) | assumption) : (l0.length : Int).toNat ≤ 8796093022208)) (by omega)) (Below.refl _ _) (Nat.le_refl _) ?_; intro v107 w11 ho12 hb hg_ hnew_; clear hg_ hnew_; (first | rw [← Ny106.out] at ho12 | (simp only [Int.reduceToNat] at ho12; rw [← Ny106.out] at ho12)); have n0_ := Aside0.mk (Kd.V_elder' (by (with_reducible repeat (first | apply Kd.V_alloc | apply Kd.V_drewN | apply Kd.V_drew)); exact HO0.out) (Kd.N_base ho12) hb); have n1_ := Aside0.mk (Kd.N_elder' (by (with_reducible repeat (first | apply Kd.N_alloc | apply Kd.N_drewN | apply Kd.N_drew)); exact HO105.out) (Kd.N_base ho12) hb); have n2_ := Aside0.mk (Kd.N_lower (Kd.N_mono (ok' := fun k_ => (P0_ k_ ∨ w.heap.size ≤ k_) ∧ some k_ ≠ (v104 : Value).ownBlock) ho12 (fun k_ hk_ => ⟨(.inr (Nat.le_trans (below_size (by repeat (first | (with_reducible first | exact HB.out | apply below_alloc | apply pw_below_drewN | apply below_drew1) | exact HB.out))) hk_)), (Kd.fresh' (Kd.N_lt (by (with_reducible repeat (first | apply Kd.N_alloc | apply Kd.N_drewN | apply Kd.N_drew)); exact HO105.out)) k_ hk_)⟩)) (below_size (by repeat (first | (with_reducible first | exact HB.out | apply below_alloc | apply pw_below_drewN | apply below_drew1) | exact HB.out)))); have n3_ := Aside0.mk (below_step (by repeat (first | (with_reducible first | exact HB.out | apply below_alloc | apply pw_below_drewN | apply below_drew1) | exact HB.out)) hb); clear HO0; clear HO105; clear HB; have HO0 := n0_; have HO105 := n1_; have HO108 := n2_; have HB := n3_; clear n0_ n1_ n2_ n3_; clear hb ho12))
          go_loopg [5, 6] k (fun kq v5 v6 w' => ∃ (x5_1 : List (S35)) (x6_1 : Int), v6 = .int .i64 x6_1 ∧ Aside0 (freshetlaw03_ZsetWeights.l0 kq l0 t102 t103 x5_1 x6_1 = some r) ∧ Aside0 (kq ≤ k) ∧ Aside0 (Kd.V k35 35 w' w.heap.size (fun k_ => (P0_ k_ ∨ w.heap.size ≤ k_) ∧ some k_ ≠ (v104 : Value).ownBlock ∧ some k_ ≠ (v5 : Value).ownBlock) (.slice A0 l0.length c0) l0) ∧ Aside0 (Kd.N k35 35 w' w.heap.size (fun k_ => (P0_ k_ ∨ w.heap.size ≤ k_) ∧ some k_ ≠ (v5 : Value).ownBlock) v104 t102) ∧ Aside0 (Kd.N k35 35 w' w.heap.size (fun k_ => (P0_ k_ ∨ w.heap.size ≤ k_) ∧ some k_ ≠ (v104 : Value).ownBlock) v5 x5_1) ∧ Aside0 (Below w.heap.size w w'))
          case atStart => exact ⟨(y106), (wrap64 ((l0.length : Int) - 1)), (by first | rfl | (simp; done) | (simp [*]; done)), H', ⟨Nat.le_refl _⟩, ⟨by (with_reducible repeat (first | apply Kd.V_alloc | apply Kd.V_drewN | apply Kd.V_drew)); exact Kd.V_mono HO0.out (fun _ hk => ⟨hk.1.1, ⟨hk.1.2, hk.2⟩⟩)⟩, ⟨by (with_reducible repeat (first | apply Kd.N_alloc | apply Kd.N_drewN | apply Kd.N_drew)); exact HO105.out⟩, ⟨by (with_reducible repeat (first | apply Kd.N_alloc | apply Kd.N_drewN | apply Kd.N_drew)); exact HO108.out⟩, ⟨by repeat (first | (with_reducible first | exact HB.out | apply below_alloc | apply pw_below_drewN | apply below_drew1) | exact HB.out)⟩⟩
          case round =>
            clear H'
            try clear c1
            try clear p2
            try clear c3
            try clear c4
            try clear c4b0
            try clear c4b1
            try clear p6
            try clear c7
            try clear c7b0
            try clear c7b1
            try clear c8
            try clear c8b0
            try clear c8b1
            try clear c10
            obtain ⟨x5_1, x6_1, rfl, HA, HK1, HO_0, HO_3, HO_5, HB⟩ := hrel
            cases gk with
            | zero => exact absurd HA.out (by simp [freshetlaw03_ZsetWeights.l0])
            | succ k1 =>
              have H := HA.out
              clear HA
              simp only [freshetlaw03_ZsetWeights.l0] at H
              by_cases c13 : x6_1 ≥ 0
              · rw [if_pos c13] at H
                have c13b0 : decide (0 ≤ x6_1) = true := decide_eq_true c13
                clear c13
                by_cases c14 : 0 ≤ x6_1
                · rw [if_pos c14] at H
                  have c14b0 : decide (0 ≤ x6_1) = true := decide_eq_true c14
                  clear c14
                  by_cases c15 : x6_1 < (l0.length : Int)
                  · rw [if_pos c15] at H
                    have c15b0 : decide (x6_1 < (l0.length : Int)) = true := decide_eq_true c15
                    clear c15
                    by_cases c16 : x5_1.length < 4398046511104
                    · rw [if_pos c16] at H
                      have LMc16 := Aside0.mk c16
                      clear c16
                      obtain ⟨y110, hy110⟩ : ∃ y_ : List (S35), y_ = (x5_1 ++ [(⟨(rd_T35 l0 x6_1).f0, (rd_T35 l0 x6_1).f1⟩ : S35)]) := ⟨_, rfl⟩
                      replace H : (freshetlaw03_ZsetWeights.l0 k1 l0 t102 t103 y110 (wrap64 (x6_1 - 1))) = some r := by first | (rw [hy110]; with_reducible exact H) | (have H2_ := (Option.bind_some _ _).symm.trans H; rw [hy110]; with_reducible exact H2_) | (have H2_ := (Option.bind_some _ _).symm.trans H; with_reducible exact H2_) | with_reducible exact H | (rw [hy110]; exact H) | exact H
                      have Ny110 := Aside0.mk hy110
                      clear hy110
                      have H' := Aside0.mk H
                      clear H
                      have p109 : 0 ≤ (x6_1 : Int) := of_decide_eq_true (by first | (with_reducible assumption) | assumption)
                      have q109 : x6_1 < (l0.length : Int) := of_decide_eq_true (by first | (with_reducible assumption) | assumption)
                      obtain ⟨ad109, A109_0, c109_0, e109, hx109_0, hx109_1, hl109_0, hi109_0⟩ := at_T35 (Kd.V_reads' HO_0.out).2.2 x6_1 p109 q109
                      cases e109
                      obtain ⟨ce109, hce109, hMe109, hcc109⟩ := Kd.V_get HO_0.out z35 x6_1 p109 (by first | exact q109 | exact of_decide_eq_true (by first | (with_reducible assumption) | assumption) | (have e_ := (Kd.V_reads' HO_0.out).1; omega))
                      obtain ⟨ua109_0, uc109_0, rfl, ul109_0, ge109_0⟩ := k35_openF hMe109
                      have hv109_0 := hcc109 0 _ rfl
                      rw [Nat.add_zero] at hv109_0
                      replace hv109_0 := Option.some.inj (hv109_0.symm.trans hx109_0)
                      injection hv109_0 with hva_ hvn_ hvc_
                      rw [hva_] at ge109_0
                      rw [hvc_] at ul109_0
                      have HL109_0 := Aside0.mk (show Kd.V k56 56 _ w.heap.size _ _ ((rd_T35 l0 x6_1).f0) from Kd.V_mk ul109_0 ge109_0)
                      clear hva_ hvn_ hvc_ ge109_0 ul109_0
                      clear hcc109 hce109
                      have HR109_0 := Aside0.mk hi109_0
                      have HC109_0 := Aside0.mk hl109_0
                      clear hi109_0 hl109_0
                      replace p109 := eq_true p109
                      replace q109 := eq_true q109
                      go_wp2_with (first | ((with_reducible refine gate_builtin (b := .append) (xs := #[.tmp 37, .tmp 42]) rfl ?_); at_builtin; refine Kd.N_append k35 (w0 := w) w.heap.size rfl (.tmp 37) (.tmp 42) 22 35 (.agg #[(.slice none 0 0), (.int .i64 0)]) 32 rfl Tryd.underlying22 info35 rfl (by decide) (by omega) u5 x5_1 (⟨(rd_T35 l0 x6_1).f0, (rd_T35 l0 x6_1).f1⟩ : S35) [.slice A109_0 ((rd_T35 l0 x6_1).f0).length c109_0, .int .i64 ((rd_T35 l0 x6_1).f1)] (fun k_ => (P0_ k_ ∨ w.heap.size ≤ k_) ∧ some k_ ≠ (v104 : Value).ownBlock) (fun k_ => ((fun k_ => (P0_ k_ ∨ w.heap.size ≤ k_) ∧ some k_ ≠ (v104 : Value).ownBlock)) k_ ∧ some k_ ≠ (u5 : Value).ownBlock) rfl rfl ?aP (fun _ hk => hk) ?aF ?aO ?aB ?aS ?aL ?_; (case aP => exact (k35_mkF _ _ (⟨(rd_T35 l0 x6_1).f0, (rd_T35 l0 x6_1).f1⟩ : S35) (Kd.V_reads' (Kd.V_mono (ok' := (fun k_ => ((fun k_ => (P0_ k_ ∨ w.heap.size ≤ k_) ∧ some k_ ≠ (v104 : Value).ownBlock)) k_ ∧ some k_ ≠ (u5 : Value).ownBlock)) (HL109_0.out) (fun k_ hk => ⟨⟨hk.1, hk.2.1⟩, hk.2.2⟩))).2.1 (Kd.V_F (Kd.V_mono (ok' := (fun k_ => ((fun k_ => (P0_ k_ ∨ w.heap.size ≤ k_) ∧ some k_ ≠ (v104 : Value).ownBlock)) k_ ∧ some k_ ≠ (u5 : Value).ownBlock)) (HL109_0.out) (fun k_ hk => ⟨⟨hk.1, hk.2.1⟩, hk.2.2⟩))))); (case aB => exact (by repeat (first | (with_reducible first | exact HB.out | apply below_alloc | apply pw_below_drewN | apply below_drew1) | exact HB.out))); (case aF => exact (fun k_ hk => ⟨(.inr (Nat.le_trans (below_size (by repeat (first | (with_reducible first | exact HB.out | apply below_alloc | apply pw_below_drewN | apply below_drew1) | exact HB.out))) hk)), Kd.fresh' (Kd.N_lt (by (with_reducible repeat (first | apply Kd.N_alloc | apply Kd.N_drewN | apply Kd.N_drew)); exact HO_3.out)) k_ hk⟩)); (case aO => exact (by (with_reducible repeat (first | apply Kd.N_alloc | apply Kd.N_drewN | apply Kd.N_drew)); exact HO_5.out)); (case aS => exact (below_size (by repeat (first | (with_reducible first | exact HB.out | apply below_alloc | apply pw_below_drewN | apply below_drew1) | exact HB.out)))); (case aL => have := LMc16.out; omega); intro v111 w17 ho hb hg hat; rw [← Ny110.out] at ho; have n0_ := Aside0.mk (Kd.V_afterv (ok := (fun k_ => (P0_ k_ ∨ w.heap.size ≤ k_) ∧ some k_ ≠ (v104 : Value).ownBlock)) (by (with_reducible repeat (first | apply Kd.V_alloc | apply Kd.V_drewN | apply Kd.V_drew)); exact Kd.V_mono HO_0.out (fun _ hk => ⟨⟨hk.1, hk.2.1⟩, hk.2.2⟩)) hg hat); have n1_ := Aside0.mk (Kd.N_afterv (ok := (fun k_ => (P0_ k_ ∨ w.heap.size ≤ k_))) (by (with_reducible repeat (first | apply Kd.N_alloc | apply Kd.N_drewN | apply Kd.N_drew)); exact HO_3.out) hg hat); have n2_ := Aside0.mk (Kd.V_afterv (ok := (fun k_ => (P0_ k_ ∨ w.heap.size ≤ k_) ∧ some k_ ≠ (v104 : Value).ownBlock)) (by (with_reducible repeat (first | apply Kd.V_alloc | apply Kd.V_drewN | apply Kd.V_drew)); exact Kd.V_mono HL109_0.out (fun _ hk => ⟨⟨hk.1, hk.2.1⟩, hk.2.2⟩)) hg hat); have n3_ := Aside0.mk (hb); have n4_ := Aside0.mk (ho); clear HO_0; clear HO_3; clear HL109_0; clear HB; clear HO_5; have HO_0 := n0_; have HO_3 := n1_; have HL109_0 := n2_; have HB := n3_; have HO112 := n4_; clear n0_ n1_ n2_ n3_ n4_; clear ho hb hg hat))
                      go_roundg k1
                      case measure => have := HK1.out; omega
                      case rel => exact ⟨(y110), (wrap64 (x6_1 - 1)), (by first | rfl | (simp; done) | (simp [*]; done)), H', ⟨by have := HK1.out; omega⟩, ⟨by (with_reducible repeat (first | apply Kd.V_alloc | apply Kd.V_drewN | apply Kd.V_drew)); exact Kd.V_mono HO_0.out (fun _ hk => ⟨hk.1.1, ⟨hk.1.2, hk.2⟩⟩)⟩, ⟨by (with_reducible repeat (first | apply Kd.N_alloc | apply Kd.N_drewN | apply Kd.N_drew)); exact HO_3.out⟩, ⟨by (with_reducible repeat (first | apply Kd.N_alloc | apply Kd.N_drewN | apply Kd.N_drew)); exact HO112.out⟩, ⟨by repeat (first | (with_reducible first | exact HB.out | apply below_alloc | apply pw_below_drewN | apply below_drew1) | exact HB.out)⟩⟩
                    · rw [if_neg c16] at H
                      exact absurd H (by simp)
                  · rw [if_neg c15] at H
                    exact absurd H (by simp)
                · rw [if_neg c14] at H
                  exact absurd H (by simp)
              · rw [if_neg c13] at H
                have c13b0 : decide (0 ≤ x6_1) = false := decide_eq_false c13
                clear c13
                replace H := Option.bind_eq_some_iff.mp H
                obtain ⟨⟨t113, t114⟩, A180, H⟩ := H
                replace H : (if t103 = t114 then ((freshetref03_Same.f k1 t102 t113).bind fun t117 => (freshetlaw03_ZsetWeights.j1 k1 l0 t102 t103 (!t117))) else (freshetlaw03_ZsetWeights.j1 k1 l0 t102 t103 true)) = some r := H
                have A18 := Aside0.mk A180
                clear A180
                have HC19 := Aside0.mk H
                clear H
                obtain ⟨Ao20, co20, eo20⟩ := Kd.N_slice HO_5.out
                subst eo20
                go_upto_region 12 with (first | ((with_reducible refine gate_callee (f := 15) rfl ?_); refine goesL_ (some 46) rfl rfl Tryd.func15 (by kernel_rfl) rfl #[.slice Ao20 x5_1.length co20] rfl (by (try simp only [List.map_toArray, List.map_cons, List.map_nil]); first | done | rfl | (simp only [List.length_drop, List.length_take]; rfl)) ?_; (with_reducible refine (xMake.calls _ _ x5_1 t113 t114 _ ?side1 ?side2 A18.out).mono ?_); (case side1 => repeat (first | exact (Kd.N_reads' HO_5.out).2.2 | (with_reducible refine Kd.C_alloc ?_ _) | (with_reducible refine Kd.C_drewN ?_ _) | (with_reducible refine Kd.C_drew ?_))); (case side2 => exact (Kd.N_reads' HO_5.out).2.1); rintro e w21 ⟨v115, rfl, ho0, hb⟩; refine ⟨_, rfl, ?_⟩; have n0_ := Aside0.mk (Kd.V_elder' (by (with_reducible repeat (first | apply Kd.V_alloc | apply Kd.V_drewN | apply Kd.V_drew)); exact HO_0.out) (Kd.R_base ho0) hb); have n1_ := Aside0.mk (Kd.N_elder' (by (with_reducible repeat (first | apply Kd.N_alloc | apply Kd.N_drewN | apply Kd.N_drew)); exact HO_3.out) (Kd.R_base ho0) hb); have n2_ := Aside0.mk (Kd.N_elder' (by (with_reducible repeat (first | apply Kd.N_alloc | apply Kd.N_drewN | apply Kd.N_drew)); exact HO_5.out) (Kd.R_base ho0) hb); have n3_ := Aside0.mk (Kd.N_lower (Kd.N_mono (ok' := fun k_ => (P0_ k_ ∨ w.heap.size ≤ k_) ∧ some k_ ≠ (v104 : Value).ownBlock ∧ some k_ ≠ (.slice Ao20 x5_1.length co20 : Value).ownBlock) (Kd.R_N (Kd.R_bound ho0)) (fun k_ hk_ => ⟨(.inr (Nat.le_trans (below_size (by repeat (first | (with_reducible first | exact HB.out | apply below_alloc | apply pw_below_drewN | apply below_drew1) | exact HB.out))) hk_.2.1)), (Kd.fresh' (Kd.N_lt (by (with_reducible repeat (first | apply Kd.N_alloc | apply Kd.N_drewN | apply Kd.N_drew)); exact HO_3.out)) k_ hk_.2.1), (Kd.fresh' (Kd.N_lt (by (with_reducible repeat (first | apply Kd.N_alloc | apply Kd.N_drewN | apply Kd.N_drew)); exact HO_5.out)) k_ hk_.2.1)⟩)) (below_size (by repeat (first | (with_reducible first | exact HB.out | apply below_alloc | apply pw_below_drewN | apply below_drew1) | exact HB.out)))); have n4_ := Aside0.mk (below_step (by repeat (first | (with_reducible first | exact HB.out | apply below_alloc | apply pw_below_drewN | apply below_drew1) | exact HB.out)) hb); clear HO_0; clear HO_3; clear HO_5; clear HB; have HO_0 := n0_; have HO_3 := n1_; have HO_5 := n2_; have HO116 := n3_; have HB := n4_; clear n0_ n1_ n2_ n3_ n4_; (try clear hb); (try clear hb2); (try clear hk); (try clear hi); (try clear ho0)))
                (try simp only [Act.put, List.setIfInBounds_toArray, List.set_cons_zero, List.set_cons_succ])
                go_cut [57] (fun v57 wc => ∃ (kq : Nat) (x57_18 : Bool), v57 = .bool x57_18 ∧ Aside0 (freshetlaw03_ZsetWeights.j1 kq l0 t102 t103 x57_18 = some r) ∧ Aside0 (kq ≤ k1) ∧ Aside0 (Kd.V k35 35 wc w.heap.size (fun k_ => (P0_ k_ ∨ w.heap.size ≤ k_) ∧ some k_ ≠ (v104 : Value).ownBlock) (.slice A0 l0.length c0) l0) ∧ Aside0 (Kd.N k35 35 wc w.heap.size (fun k_ => (P0_ k_ ∨ w.heap.size ≤ k_)) v104 t102) ∧ Aside0 (Below w.heap.size w wc))
                case first =>
                  have H := HC19.out
                  clear HC19
                  by_cases c22 : t103 = t114
                  · rw [if_pos c22] at H
                    have c22b0 : (t103 == t114) = true := beq_iff_eq.mpr c22
                    have c22b1 : (t103 != t114) = false := bne_eq_false_iff_eq.mpr c22
                    clear c22
                    (first | rw [c22b0] | (simp only [i64_w, i32_w]; rw [c22b0]) | skip)
                    replace H := Option.bind_eq_some_iff.mp H
                    obtain ⟨t117, A230, H⟩ := H
                    replace H : (freshetlaw03_ZsetWeights.j1 k1 l0 t102 t103 (!t117)) = some r := H
                    have A23 := Aside0.mk A230
                    clear A230
                    have H' := Aside0.mk H
                    clear H
                    obtain ⟨Ao24, co24, eo24⟩ := Kd.N_slice HO_3.out
                    subst eo24
                    obtain ⟨Ao25, co25, eo25⟩ := Kd.N_slice HO116.out
                    subst eo25
                    go_wp2_with (first | (go_at_call 13; (with_reducible refine (freshetref03_Same.calls k1 _ _ t102 _ _ t113 t117 _ ?side1 ?side2 ?side3 ?side4 A23.out).mono ?_); (case side1 => repeat (first | exact (Kd.N_reads' HO_3.out).2.2 | (with_reducible refine Kd.C_alloc ?_ _) | (with_reducible refine Kd.C_drewN ?_ _) | (with_reducible refine Kd.C_drew ?_))); (case side2 => exact (Kd.N_reads' HO_3.out).2.1); (case side3 => repeat (first | exact (Kd.N_reads' HO116.out).2.2 | (with_reducible refine Kd.C_alloc ?_ _) | (with_reducible refine Kd.C_drewN ?_ _) | (with_reducible refine Kd.C_drew ?_))); (case side4 => exact (Kd.N_reads' HO116.out).2.1); rintro e w' ⟨rfl, ⟨nd, rfl⟩⟩))
                    go_meet
                    case rel => exact ⟨_, (!t117), (by first | rfl | (simp; done) | (simp [*]; done)), H', ⟨by have := HK1.out; first | omega | exact Nat.le_refl _⟩, ⟨by (with_reducible repeat (first | apply Kd.V_alloc | apply Kd.V_drewN | apply Kd.V_drew)); exact Kd.V_mono HO_0.out (fun _ hk => ⟨hk.1.1, hk.1.2.1⟩)⟩, ⟨by (with_reducible repeat (first | apply Kd.N_alloc | apply Kd.N_drewN | apply Kd.N_drew)); exact Kd.N_mono HO_3.out (fun _ hk => hk.1.1)⟩, ⟨by repeat (first | (with_reducible first | exact HB.out | apply below_alloc | apply pw_below_drewN | apply below_drew1) | exact HB.out)⟩⟩
                  · rw [if_neg c22] at H
                    have c22b0 : (t103 == t114) = false := beq_eq_false_iff_ne.mpr c22
                    have c22b1 : (t103 != t114) = true := bne_iff_ne.mpr c22
                    (first | rw [c22b0] | (simp only [i64_w, i32_w]; rw [c22b0]) | skip)
                    have H' := Aside0.mk H
                    clear H
                    go_wp2
                    go_meet
                    case rel => exact ⟨_, (true), (by first | rfl | (simp; done) | (simp [*]; done)), H', ⟨by have := HK1.out; first | omega | exact Nat.le_refl _⟩, ⟨by (with_reducible repeat (first | apply Kd.V_alloc | apply Kd.V_drewN | apply Kd.V_drew)); exact Kd.V_mono HO_0.out (fun _ hk => ⟨hk.1.1, hk.1.2.1⟩)⟩, ⟨by (with_reducible repeat (first | apply Kd.N_alloc | apply Kd.N_drewN | apply Kd.N_drew)); exact Kd.N_mono HO_3.out (fun _ hk => hk.1.1)⟩, ⟨by repeat (first | (with_reducible first | exact HB.out | apply below_alloc | apply pw_below_drewN | apply below_drew1) | exact HB.out)⟩⟩
                case rest =>
                  clear HC19
                  try clear c1
                  try clear p1
                  try clear q1
                  try clear hx1
                  try clear c2
                  try clear p2
                  try clear c3
                  try clear c4
                  try clear c4b0
                  try clear c4b1
                  try clear p6
                  try clear c7
                  try clear c7b0
                  try clear c7b1
                  try clear c8
                  try clear c8b0
                  try clear c8b1
                  try clear c10
                  try clear p10
                  try clear q10
                  try clear hx10
                  try clear c13
                  try clear c13b0
                  try clear c14
                  try clear c14b0
                  try clear c15
                  try clear c15b0
                  try clear c16
                  try clear c22
                  try clear c22b0
                  try clear c22b1
                  try clear hx109_0
                  try clear hx109_1
                  try clear p109
                  try clear p2
                  try clear p6
                  try clear q109
                  obtain ⟨kq, x57_18, rfl, HA, HJ18, HO_0, HO_3, HB⟩ := hcut
                  cases kq with
                  | zero => exact absurd HA.out (by simp [freshetlaw03_ZsetWeights.j1])
                  | succ kj18 =>
                    have H := HA.out
                    clear HA
                    simp only [freshetlaw03_ZsetWeights.j1] at H
                    by_cases c26 : x57_18 = true
                    · subst c26
                      have H1 : (some false) = some r := by rw [if_pos rfl] at H; exact H
                      clear H
                      have H := H1
                      clear H1
                      obtain rfl := Option.some.inj H
                      go_wp2
                      go_ret
                      exact ⟨by first | rfl | (simp [errW_none, errW_some] <;> rfl) | (simp [*, errW_none, errW_some] <;> rfl), by repeat (first | (with_reducible first | exact HB.out | apply below_alloc | apply pw_below_drewN | apply below_drew1) | exact HB.out)⟩
                    · replace c26 := Bool.eq_false_iff.mpr c26
                      subst c26
                      have H1 : (if t103 = 0 then ((xZSound.f t102).bind fun t118 => (if t118 = true then (freshetlaw03_ZsetWeights.l1 kj18 l0 t102 0) else (some false))) else (some ((t102.length : Int) == 0))) = some r := by rw [if_neg (show ¬ (false = true) by decide)] at H; exact H
                      clear H
                      have H := H1
                      clear H1
                      by_cases c27 : t103 = 0
                      · rw [if_pos c27] at H
                        have c27b0 : (t103 == 0) = true := beq_iff_eq.mpr c27
                        have c27b1 : (t103 != 0) = false := bne_eq_false_iff_eq.mpr c27
                        clear c27
                        replace H := Option.bind_eq_some_iff.mp H
                        obtain ⟨t118, A280, H⟩ := H
                        replace H : (if t118 = true then (freshetlaw03_ZsetWeights.l1 kj18 l0 t102 0) else (some false)) = some r := H
                        have A28 := Aside0.mk A280
                        clear A280
                        by_cases c29 : t118 = true
                        · subst c29
                          have H1 : (freshetlaw03_ZsetWeights.l1 kj18 l0 t102 0) = some r := by rw [if_pos rfl] at H; exact H
                          clear H
                          have H := H1
                          clear H1
                          have H' := Aside0.mk H
                          clear H
                          obtain ⟨Ao30, co30, eo30⟩ := Kd.N_slice HO_3.out
                          subst eo30
                          go_wp2_with (first | ((with_reducible refine gate_callee (f := 11) rfl ?_); refine goesL_ (some 64) rfl rfl Tryd.func11 (by kernel_rfl) rfl #[.slice Ao30 t102.length co30] rfl (by (try simp only [List.map_toArray, List.map_cons, List.map_nil]); first | done | rfl | (simp only [List.length_drop, List.length_take]; rfl)) ?_; (with_reducible refine (xZSound.calls _ _ t102 true _ ?side1 ?side2 A28.out).mono ?_); (case side1 => repeat (first | exact (Kd.N_reads' HO_3.out).2.2 | (with_reducible refine Kd.C_alloc ?_ _) | (with_reducible refine Kd.C_drewN ?_ _) | (with_reducible refine Kd.C_drew ?_))); (case side2 => exact (Kd.N_reads' HO_3.out).2.1); rintro e w31 ⟨rfl, hb⟩; refine ⟨_, rfl, ?_⟩; have n0_ := Aside0.mk (Kd.V_below (by (with_reducible repeat (first | apply Kd.V_alloc | apply Kd.V_drewN | apply Kd.V_drew)); exact HO_0.out) hb); have n1_ := Aside0.mk (Kd.N_below (by (with_reducible repeat (first | apply Kd.N_alloc | apply Kd.N_drewN | apply Kd.N_drew)); exact HO_3.out) hb); have n2_ := Aside0.mk (below_step (by repeat (first | (with_reducible first | exact HB.out | apply below_alloc | apply pw_below_drewN | apply below_drew1) | exact HB.out)) hb); clear HO_0; clear HO_3; clear HB; have HO_0 := n0_; have HO_3 := n1_; have HB := n2_; clear n0_ n1_ n2_; (try clear hb); (try clear hb2); (try clear hk); (try clear hi)))
                          go_loopg [9] kj18 (fun kq v9 w' => ∃ (x9_3 : Int), v9 = .int .i64 x9_3 ∧ Aside0 (freshetlaw03_ZsetWeights.l1 kq l0 t102 x9_3 = some r) ∧ Aside0 (kq ≤ kj18) ∧ Aside0 (Kd.V k35 35 w' w.heap.size (fun k_ => (P0_ k_ ∨ w.heap.size ≤ k_) ∧ some k_ ≠ ((.slice Ao30 t102.length co30) : Value).ownBlock) (.slice A0 l0.length c0) l0) ∧ Aside0 (Kd.N k35 35 w' w.heap.size (fun k_ => (P0_ k_ ∨ w.heap.size ≤ k_)) (.slice Ao30 t102.length co30) t102) ∧ Aside0 (Below w.heap.size w w'))
                          case atStart => exact ⟨(0), (by first | rfl | (simp; done) | (simp [*]; done)), H', ⟨Nat.le_refl _⟩, ⟨by (with_reducible repeat (first | apply Kd.V_alloc | apply Kd.V_drewN | apply Kd.V_drew)); exact HO_0.out⟩, ⟨by (with_reducible repeat (first | apply Kd.N_alloc | apply Kd.N_drewN | apply Kd.N_drew)); exact HO_3.out⟩, ⟨by repeat (first | (with_reducible first | exact HB.out | apply below_alloc | apply pw_below_drewN | apply below_drew1) | exact HB.out)⟩⟩
                          case round =>
                            clear H'
                            try clear c1
                            try clear p1
                            try clear q1
                            try clear hx1
                            try clear c2
                            try clear p2
                            try clear c3
                            try clear c4
                            try clear c4b0
                            try clear c4b1
                            try clear p6
                            try clear c7
                            try clear c7b0
                            try clear c7b1
                            try clear c8
                            try clear c8b0
                            try clear c8b1
                            try clear c10
                            try clear p10
                            try clear q10
                            try clear hx10
                            try clear c11
                            try clear c13
                            try clear c13b0
                            try clear c14
                            try clear c14b0
                            try clear c15
                            try clear c15b0
                            try clear c16
                            try clear c22
                            try clear c22b0
                            try clear c22b1
                            try clear c26
                            try clear c27
                            try clear c27b0
                            try clear c27b1
                            try clear c29
                            try clear hx109_0
                            try clear hx109_1
                            try clear p1
                            try clear p10
                            try clear p109
                            try clear p2
                            try clear p6
                            try clear q1
                            try clear q10
                            try clear q109
                            obtain ⟨x9_3, rfl, HA, HK3, HO_0, HO_3, HB⟩ := hrel
                            cases gk with
                            | zero => exact absurd HA.out (by simp [freshetlaw03_ZsetWeights.l1])
                            | succ k3 =>
                              have H := HA.out
                              clear HA
                              simp only [freshetlaw03_ZsetWeights.l1] at H
                              by_cases c32 : x9_3 < (l0.length : Int)
                              · rw [if_pos c32] at H
                                have c32b0 : decide (x9_3 < (l0.length : Int)) = true := decide_eq_true c32
                                clear c32
                                have H' := Aside0.mk H
                                clear H
                                go_wp2
                                go_loopg [10, 11, 12] k3 (fun kq v10 v11 v12 w' => ∃ (x10_4 : Int) (x11_4 : Int) (x12_4 : Int), v10 = .int .i64 x10_4 ∧ v11 = .int .i64 x11_4 ∧ v12 = .int .i64 x12_4 ∧ Aside0 (freshetlaw03_ZsetWeights.l2 kq l0 t102 x9_3 x10_4 x11_4 x12_4 = some r) ∧ Aside0 (kq ≤ k3) ∧ Aside0 (Kd.V k35 35 w' w.heap.size (fun k_ => (P0_ k_ ∨ w.heap.size ≤ k_) ∧ some k_ ≠ ((.slice Ao30 t102.length co30) : Value).ownBlock) (.slice A0 l0.length c0) l0) ∧ Aside0 (Kd.N k35 35 w' w.heap.size (fun k_ => (P0_ k_ ∨ w.heap.size ≤ k_)) (.slice Ao30 t102.length co30) t102) ∧ Aside0 (Below w.heap.size w w'))
                                case atStart => exact ⟨(0), (0), (0), (by first | rfl | (simp; done) | (simp [*]; done)), (by first | rfl | (simp; done) | (simp [*]; done)), (by first | rfl | (simp; done) | (simp [*]; done)), H', ⟨Nat.le_refl _⟩, ⟨by (with_reducible repeat (first | apply Kd.V_alloc | apply Kd.V_drewN | apply Kd.V_drew)); exact HO_0.out⟩, ⟨by (with_reducible repeat (first | apply Kd.N_alloc | apply Kd.N_drewN | apply Kd.N_drew)); exact HO_3.out⟩, ⟨by repeat (first | (with_reducible first | exact HB.out | apply below_alloc | apply pw_below_drewN | apply below_drew1) | exact HB.out)⟩⟩
                                case round =>
                                  clear H'
                                  try clear c1
                                  try clear p1
                                  try clear q1
                                  try clear hx1
                                  try clear c2
                                  try clear p2
                                  try clear c3
                                  try clear c4
                                  try clear c4b0
                                  try clear c4b1
                                  try clear p6
                                  try clear c7
                                  try clear c7b0
                                  try clear c7b1
                                  try clear c8
                                  try clear c8b0
                                  try clear c8b1
                                  try clear c10
                                  try clear p10
                                  try clear q10
                                  try clear hx10
                                  try clear c11
                                  try clear c13
                                  try clear c13b0
                                  try clear c14
                                  try clear c14b0
                                  try clear c15
                                  try clear c15b0
                                  try clear c16
                                  try clear c22
                                  try clear c22b0
                                  try clear c22b1
                                  try clear c26
                                  try clear c27
                                  try clear c27b0
                                  try clear c27b1
                                  try clear c29
                                  try clear c32
                                  try clear c32b0
                                  try clear hx109_0
                                  try clear hx109_1
                                  try clear p1
                                  try clear p10
                                  try clear p109
                                  try clear p2
                                  try clear p6
                                  try clear q1
                                  try clear q10
                                  try clear q109
                                  obtain ⟨x10_4, x11_4, x12_4, rfl, rfl, rfl, HA, HK4, HO_0, HO_3, HB⟩ := hrel
                                  cases gk with
                                  | zero => exact absurd HA.out (by simp [freshetlaw03_ZsetWeights.l2])
                                  | succ k4 =>
                                    have H := HA.out
                                    clear HA
                                    simp only [freshetlaw03_ZsetWeights.l2] at H
                                    by_cases c33 : x12_4 < (l0.length : Int)
                                    · rw [if_pos c33] at H
                                      have c33b0 : decide (x12_4 < (l0.length : Int)) = true := decide_eq_true c33
                                      clear c33
                                      by_cases c34 : 0 ≤ x9_3
                                      · rw [if_pos c34] at H
                                        have c34b0 : decide (0 ≤ x9_3) = true := decide_eq_true c34
                                        clear c34
                                        by_cases c35 : x9_3 < (l0.length : Int)
                                        · rw [if_pos c35] at H
                                          have c35b0 : decide (x9_3 < (l0.length : Int)) = true := decide_eq_true c35
                                          clear c35
                                          by_cases c36 : 0 ≤ x12_4
                                          · rw [if_pos c36] at H
                                            have c36b0 : decide (0 ≤ x12_4) = true := decide_eq_true c36
                                            clear c36
                                            replace H := Option.bind_eq_some_iff.mp H
                                            obtain ⟨t121, A370, H⟩ := H
                                            replace H : (if t121 = true then (freshetlaw03_ZsetWeights.l2 k4 l0 t102 x9_3 (wrap64 (x10_4 + (((rd_T35 l0 x12_4).f1) / 2147483648))) (wrap64 (x11_4 + (Go.bits .and .i64 ((rd_T35 l0 x12_4).f1) 2147483647))) (wrap64 (x12_4 + 1))) else (freshetlaw03_ZsetWeights.l2 k4 l0 t102 x9_3 x10_4 x11_4 (wrap64 (x12_4 + 1)))) = some r := H
                                            have A37 := Aside0.mk A370
                                            clear A370
                                            by_cases c38 : t121 = true
                                            · subst c38
                                              have H1 : (freshetlaw03_ZsetWeights.l2 k4 l0 t102 x9_3 (wrap64 (x10_4 + (((rd_T35 l0 x12_4).f1) / 2147483648))) (wrap64 (x11_4 + (Go.bits .and .i64 ((rd_T35 l0 x12_4).f1) 2147483647))) (wrap64 (x12_4 + 1))) = some r := by rw [if_pos rfl] at H; exact H
                                              clear H
                                              have H := H1
                                              clear H1
                                              have H' := Aside0.mk H
                                              clear H
                                              try go_wp2
                                              have n0_ := Aside0.mk (Kd.V_drew HO_0.out)
                                              have n1_ := Aside0.mk (Kd.N_drew HO_3.out)
                                              have n2_ := Aside0.mk (below_drew1 HB.out)
                                              clear HO_0
                                              clear HO_3
                                              clear HB
                                              have HO_0 := n0_
                                              have HO_3 := n1_
                                              have HB := n2_
                                              clear n0_ n1_ n2_
                                              have p119 : 0 ≤ (x9_3 : Int) := of_decide_eq_true (by first | (with_reducible assumption) | assumption)
                                              have q119 : x9_3 < (l0.length : Int) := of_decide_eq_true (by first | (with_reducible assumption) | assumption)
                                              obtain ⟨ad119, A119_0, c119_0, e119, hx119_0, hx119_1, hl119_0, hi119_0⟩ := at_T35 (Kd.V_reads' HO_0.out).2.2 x9_3 p119 q119
                                              cases e119
                                              obtain ⟨ce119, hce119, hMe119, hcc119⟩ := Kd.V_get HO_0.out z35 x9_3 p119 (by first | exact q119 | exact of_decide_eq_true (by first | (with_reducible assumption) | assumption) | (have e_ := (Kd.V_reads' HO_0.out).1; omega))
                                              obtain ⟨ua119_0, uc119_0, rfl, ul119_0, ge119_0⟩ := k35_openF hMe119
                                              have hv119_0 := hcc119 0 _ rfl
                                              rw [Nat.add_zero] at hv119_0
                                              replace hv119_0 := Option.some.inj (hv119_0.symm.trans hx119_0)
                                              injection hv119_0 with hva_ hvn_ hvc_
                                              rw [hva_] at ge119_0
                                              rw [hvc_] at ul119_0
                                              have HL119_0 := Aside0.mk (show Kd.V k56 56 _ w.heap.size _ _ ((rd_T35 l0 x9_3).f0) from Kd.V_mk ul119_0 ge119_0)
                                              clear hva_ hvn_ hvc_ ge119_0 ul119_0
                                              clear hcc119 hce119
                                              have HR119_0 := Aside0.mk hi119_0
                                              have HC119_0 := Aside0.mk hl119_0
                                              clear hi119_0 hl119_0
                                              replace p119 := eq_true p119
                                              replace q119 := eq_true q119
                                              have p120 : 0 ≤ (x12_4 : Int) := of_decide_eq_true (by first | (with_reducible assumption) | assumption)
                                              have q120 : x12_4 < (l0.length : Int) := of_decide_eq_true (by first | (with_reducible assumption) | assumption)
                                              obtain ⟨ad120, A120_0, c120_0, e120, hx120_0, hx120_1, hl120_0, hi120_0⟩ := at_T35 (Kd.V_reads' HO_0.out).2.2 x12_4 p120 q120
                                              obtain rfl : ad119 = ad120 := (by injection e120)
                                              obtain ⟨ce120, hce120, hMe120, hcc120⟩ := Kd.V_get HO_0.out z35 x12_4 p120 (by first | exact q120 | exact of_decide_eq_true (by first | (with_reducible assumption) | assumption) | (have e_ := (Kd.V_reads' HO_0.out).1; omega))
                                              obtain ⟨ua120_0, uc120_0, rfl, ul120_0, ge120_0⟩ := k35_openF hMe120
                                              have hv120_0 := hcc120 0 _ rfl
                                              rw [Nat.add_zero] at hv120_0
                                              replace hv120_0 := Option.some.inj (hv120_0.symm.trans hx120_0)
                                              injection hv120_0 with hva_ hvn_ hvc_
                                              rw [hva_] at ge120_0
                                              rw [hvc_] at ul120_0
                                              have HL120_0 := Aside0.mk (show Kd.V k56 56 _ w.heap.size _ _ ((rd_T35 l0 x12_4).f0) from Kd.V_mk ul120_0 ge120_0)
                                              clear hva_ hvn_ hvc_ ge120_0 ul120_0
                                              clear hcc120 hce120
                                              have HR120_0 := Aside0.mk hi120_0
                                              have HC120_0 := Aside0.mk hl120_0
                                              clear hi120_0 hl120_0
                                              replace p120 := eq_true p120
                                              replace q120 := eq_true q120
                                              refine start_ (n := 11) (S := fun w' => w'.cell? (ad119.add ((x9_3).toNat * 2)) = some (.slice A119_0 ((rd_T35 l0 x9_3).f0).length c119_0) ∧ w'.cell? ⟨(ad119.add ((x9_3).toNat * 2)).block, (ad119.add ((x9_3).toNat * 2)).off + 1, none⟩ = some (.int .i64 ((rd_T35 l0 x9_3).f1)) ∧ w'.cell? (ad119.add ((x12_4).toNat * 2)) = some (.slice A120_0 ((rd_T35 l0 x12_4).f0).length c120_0) ∧ w'.cell? ⟨(ad119.add ((x12_4).toNat * 2)).block, (ad119.add ((x12_4).toNat * 2)).off + 1, none⟩ = some (.int .i64 ((rd_T35 l0 x12_4).f1))) (ds := []) #[false, false, false, false, false, false, false, false, false, false, false] (by kernel_rfl) rfl rfl ⟨hx119_0, hx119_1, hx120_0, hx120_1⟩ (fun hHeld => ?_); refine with_tabW freshetlaw03_ZsetWeights.tab26 freshetlaw03_ZsetWeights.bits26 (fun HT_ HW_ => ?_)
                                              generalize wr.drew = w39 at HO_0 HO_3 HB HL119_0 HL120_0 HR119_0 HR120_0 hx119_0 hx119_1 hx120_0 hx120_1 hHeld ⊢
                                              refine pure_ (i := 0) (N := some 78) (v := ?_) (a' := ?_) #[true, false, false, false, false, false, false, false, false, false, false] rfl rfl (any_of HT_.out (by kernel_rfl)) (fun _ _ _ h => h) (Or.inl ⟨by rfl, ?_⟩) ?_ ?_
                                              rotate_left
                                              · intro w'
                                                go_simp
                                                with_reducible rfl
                                              rotate_left
                                              · simp only [Act.put, List.setIfInBounds_toArray, List.set_cons_zero, List.set_cons_succ, i64_w, i32_w]
                                                rfl
                                              refine pure_ (i := 1) (N := some 79) (v := ?_) (a' := ?_) #[true, true, false, false, false, false, false, false, false, false, false] rfl rfl (any_of HT_.out (by kernel_rfl)) (fun _ _ _ h => h) (Or.inl ⟨by rfl, ?_⟩) ?_ ?_
                                              rotate_left
                                              · intro w'
                                                go_simp
                                                with_reducible rfl
                                              rotate_left
                                              · simp only [Act.put, List.setIfInBounds_toArray, List.set_cons_zero, List.set_cons_succ, i64_w, i32_w]
                                                rfl
                                              refine pure_ (i := 2) (N := some 80) (v := ?_) (a' := ?_) #[true, true, true, false, false, false, false, false, false, false, false] rfl rfl (any_of HT_.out (by kernel_rfl)) (fun _ _ _ h => h) (Or.inl ⟨by rfl, ?_⟩) ?_ ?_
                                              rotate_left
                                              · intro w'
                                                go_simp
                                                with_reducible rfl
                                              rotate_left
                                              · simp only [Act.put, List.setIfInBounds_toArray, List.set_cons_zero, List.set_cons_succ, i64_w, i32_w]
                                                rfl
                                              refine pure_ (i := 3) (N := some 81) (v := ?_) (a' := ?_) #[true, true, true, true, false, false, false, false, false, false, false] rfl rfl (any_of HT_.out (by kernel_rfl)) (fun _ _ _ h => h) (Or.inl ⟨by rfl, ?_⟩) ?_ ?_
                                              rotate_left
                                              · intro w'
                                                go_simp
                                                with_reducible rfl
                                              rotate_left
                                              · simp only [Act.put, List.setIfInBounds_toArray, List.set_cons_zero, List.set_cons_succ, i64_w, i32_w]
                                                rfl
                                              refine pure_ (i := 5) (N := some 83) (v := ?_) (a' := ?_) #[true, true, true, true, false, true, false, false, false, false, false] rfl rfl (any_of HT_.out (by kernel_rfl)) (fun _ _ _ h => h) (Or.inl ⟨by rfl, ?_⟩) ?_ ?_
                                              rotate_left
                                              · intro w'
                                                go_simp
                                                with_reducible rfl
                                              rotate_left
                                              · simp only [Act.put, List.setIfInBounds_toArray, List.set_cons_zero, List.set_cons_succ, i64_w, i32_w]
                                                rfl
                                              refine pure_ (i := 6) (N := some 84) (v := ?_) (a' := ?_) #[true, true, true, true, false, true, true, false, false, false, false] rfl rfl (any_of HT_.out (by kernel_rfl)) (fun _ _ _ h => h) (Or.inl ⟨by rfl, ?_⟩) ?_ ?_
                                              rotate_left
                                              · intro w'
                                                go_simp
                                                with_reducible rfl
                                              rotate_left
                                              · simp only [Act.put, List.setIfInBounds_toArray, List.set_cons_zero, List.set_cons_succ, i64_w, i32_w]
                                                rfl
                                              refine pure_ (i := 7) (N := some 85) (v := ?_) (a' := ?_) #[true, true, true, true, false, true, true, true, false, false, false] rfl rfl (any_of HT_.out (by kernel_rfl)) (fun _ _ _ h => h) (Or.inl ⟨by rfl, ?_⟩) ?_ ?_
                                              rotate_left
                                              · intro w'
                                                go_simp
                                                with_reducible rfl
                                              rotate_left
                                              · simp only [Act.put, List.setIfInBounds_toArray, List.set_cons_zero, List.set_cons_succ, i64_w, i32_w]
                                                rfl
                                              refine pure_ (i := 8) (N := some 86) (v := ?_) (a' := ?_) #[true, true, true, true, false, true, true, true, true, false, false] rfl rfl (any_of HT_.out (by kernel_rfl)) (fun _ _ _ h => h) (Or.inl ⟨by rfl, ?_⟩) ?_ ?_
                                              rotate_left
                                              · intro w'
                                                go_simp
                                                with_reducible rfl
                                              rotate_left
                                              · simp only [Act.put, List.setIfInBounds_toArray, List.set_cons_zero, List.set_cons_succ, i64_w, i32_w]
                                                rfl
                                              refine take_ (i := 4) (N := some 82) (v := ?_) (a' := ?_) #[true, true, true, true, true, true, true, true, true, false, false] rfl rfl (take_ofW HT_.out HW_.out (by kernel_rfl)) (fun _ _ _ h => h) (Or.inl ⟨by rfl, ?_⟩) hHeld ?_ ?_
                                              rotate_left
                                              · rintro w' ⟨s0, s1, s2, s3⟩
                                                go_simp
                                                with_reducible rfl
                                              rotate_left
                                              · simp only [Act.put, List.setIfInBounds_toArray, List.set_cons_zero, List.set_cons_succ, i64_w, i32_w]
                                                rfl
                                              refine take_ (i := 9) (N := some 87) (v := ?_) (a' := ?_) #[true, true, true, true, true, true, true, true, true, true, false] rfl rfl (take_ofW HT_.out HW_.out (by kernel_rfl)) (fun _ _ _ h => h) (Or.inl ⟨by rfl, ?_⟩) hHeld ?_ ?_
                                              rotate_left
                                              · rintro w' ⟨s0, s1, s2, s3⟩
                                                go_simp
                                                with_reducible rfl
                                              rotate_left
                                              · simp only [Act.put, List.setIfInBounds_toArray, List.set_cons_zero, List.set_cons_succ, i64_w, i32_w]
                                                rfl
                                              refine one_ (i := 10) (N := some 88) #[true, true, true, true, true, true, true, true, true, true, true] rfl rfl (one_of HT_.out (by kernel_rfl)) (by decide) (fun K hK => ?_)
                                              refine goes_ Tryd.func16 (by kernel_rfl) rfl #[.slice A119_0 ((rd_T35 l0 x9_3).f0).length c119_0, .slice A120_0 ((rd_T35 l0 x12_4).f0).length c120_0] (by rfl) rfl rfl (by (try simp only [List.map_toArray, List.map_cons, List.map_nil]); first | done | rfl | (simp only [List.length_drop, List.length_take]; rfl)) ?_
                                              with_reducible refine (xSameR.calls _ _ ((rd_T35 l0 x9_3).f0) _ _ ((rd_T35 l0 x12_4).f0) true _ ?side1 ?side2 ?side3 ?side4 ?side5 A37.out).mono ?_
                                              (case side1 => repeat (first | exact (by repeat (first | (with_reducible exact HR119_0.out) | (with_reducible refine Kd.C_alloc ?_ _) | (with_reducible refine Kd.C_drewN ?_ _) | (with_reducible refine Kd.C_drew ?_) | exact HR119_0.out)) | (with_reducible refine Kd.C_alloc ?_ _) | (with_reducible refine Kd.C_drewN ?_ _) | (with_reducible refine Kd.C_drew ?_)))
                                              (case side2 => exact HC119_0.out)
                                              (case side3 => repeat (first | exact (by repeat (first | (with_reducible exact HR120_0.out) | (with_reducible refine Kd.C_alloc ?_ _) | (with_reducible refine Kd.C_drewN ?_ _) | (with_reducible refine Kd.C_drew ?_) | exact HR120_0.out)) | (with_reducible refine Kd.C_alloc ?_ _) | (with_reducible refine Kd.C_drewN ?_ _) | (with_reducible refine Kd.C_drew ?_)))
                                              (case side4 => exact HC120_0.out)
                                              (case side5 => first | exact HT.out | exact tab_at HT.out (by repeat (first | (with_reducible first | exact HB.out | apply below_alloc | apply pw_below_drewN | apply below_drew1) | exact HB.out)) | (repeat (first | exact HT.out | refine tab_drewN ?_ | refine tab_drew ?_)))
                                              rintro e w40 ⟨rfl, hb⟩
                                              have HS0_ := (hb.cell (World.block_lt_of_cell? _ _ (hHeld.1))).trans (hHeld.1)
                                              have HS1_ := (hb.cell (World.block_lt_of_cell? _ _ (hHeld.2.1))).trans (hHeld.2.1)
                                              have HS2_ := (hb.cell (World.block_lt_of_cell? _ _ (hHeld.2.2.1))).trans (hHeld.2.2.1)
                                              have HS3_ := (hb.cell (World.block_lt_of_cell? _ _ (hHeld.2.2.2))).trans (hHeld.2.2.2)
                                              refine ⟨_, rfl, ?_⟩
                                              have n0_ := Aside0.mk (Kd.V_below (by (with_reducible repeat (first | apply Kd.V_alloc | apply Kd.V_drewN | apply Kd.V_drew)); exact HO_0.out) hb)
                                              have n1_ := Aside0.mk (Kd.N_below (by (with_reducible repeat (first | apply Kd.N_alloc | apply Kd.N_drewN | apply Kd.N_drew)); exact HO_3.out) hb)
                                              have n2_ := Aside0.mk (Kd.V_below (by (with_reducible repeat (first | apply Kd.V_alloc | apply Kd.V_drewN | apply Kd.V_drew)); exact HL119_0.out) hb)
                                              have n3_ := Aside0.mk (Kd.V_below (by (with_reducible repeat (first | apply Kd.V_alloc | apply Kd.V_drewN | apply Kd.V_drew)); exact HL120_0.out) hb)
                                              have n4_ := Aside0.mk (Kd.C_below (by repeat (first | (with_reducible exact HR119_0.out) | (with_reducible refine Kd.C_alloc ?_ _) | (with_reducible refine Kd.C_drewN ?_ _) | (with_reducible refine Kd.C_drew ?_) | exact HR119_0.out)) hb)
                                              have n5_ := Aside0.mk (Kd.C_below (by repeat (first | (with_reducible exact HR120_0.out) | (with_reducible refine Kd.C_alloc ?_ _) | (with_reducible refine Kd.C_drewN ?_ _) | (with_reducible refine Kd.C_drew ?_) | exact HR120_0.out)) hb)
                                              have n6_ := Aside0.mk (below_step (by repeat (first | (with_reducible first | exact HB.out | apply below_alloc | apply pw_below_drewN | apply below_drew1) | exact HB.out)) hb)
                                              clear HO_0
                                              clear HO_3
                                              clear HL119_0
                                              clear HL120_0
                                              clear HR119_0
                                              clear HR120_0
                                              clear HB
                                              have HO_0 := n0_
                                              have HO_3 := n1_
                                              have HL119_0 := n2_
                                              have HL120_0 := n3_
                                              have HR119_0 := n4_
                                              have HR120_0 := n5_
                                              have HB := n6_
                                              clear n0_ n1_ n2_ n3_ n4_ n5_ n6_
                                              (try clear hb)
                                              (try clear hb2)
                                              (try clear hk)
                                              (try clear hi)
                                              refine hK.out _ _ ⟨HS0_, HS1_, HS2_, HS3_⟩ (fun hHeld => ?_)
                                              clear hK K
                                              refine norm_ (a' := ?_) ?_ ?_
                                              rotate_left
                                              · show Act.put _ (some 88) _ = _
                                                simp only [Act.put, List.setIfInBounds_toArray, List.set_cons_zero, List.set_cons_succ, i64_w, i32_w]
                                                rfl
                                              refine done_ (done_of HT_.out (by kernel_rfl)) ?_
                                              have p122 : 0 ≤ (x12_4 : Int) := of_decide_eq_true (by first | (with_reducible assumption) | assumption)
                                              have q122 : x12_4 < (l0.length : Int) := of_decide_eq_true (by first | (with_reducible assumption) | assumption)
                                              obtain ⟨ad122, A122_0, c122_0, e122, hx122_0, hx122_1, hl122_0, hi122_0⟩ := at_T35 (Kd.V_reads' HO_0.out).2.2 x12_4 p122 q122
                                              obtain rfl : ad119 = ad122 := (by injection e122)
                                              obtain ⟨ce122, hce122, hMe122, hcc122⟩ := Kd.V_get HO_0.out z35 x12_4 p122 (by first | exact q122 | exact of_decide_eq_true (by first | (with_reducible assumption) | assumption) | (have e_ := (Kd.V_reads' HO_0.out).1; omega))
                                              obtain ⟨ua122_0, uc122_0, rfl, ul122_0, ge122_0⟩ := k35_openF hMe122
                                              have hv122_0 := hcc122 0 _ rfl
                                              rw [Nat.add_zero] at hv122_0
                                              replace hv122_0 := Option.some.inj (hv122_0.symm.trans hx122_0)
                                              injection hv122_0 with hva_ hvn_ hvc_
                                              rw [hva_] at ge122_0
                                              rw [hvc_] at ul122_0
                                              have HL122_0 := Aside0.mk (show Kd.V k56 56 _ w.heap.size _ _ ((rd_T35 l0 x12_4).f0) from Kd.V_mk ul122_0 ge122_0)
                                              clear hva_ hvn_ hvc_ ge122_0 ul122_0
                                              clear hcc122 hce122
                                              have HR122_0 := Aside0.mk hi122_0
                                              have HC122_0 := Aside0.mk hl122_0
                                              clear hi122_0 hl122_0
                                              replace p122 := eq_true p122
                                              replace q122 := eq_true q122
                                              have p123 : 0 ≤ (x12_4 : Int) := of_decide_eq_true (by first | (with_reducible assumption) | assumption)
                                              have q123 : x12_4 < (l0.length : Int) := of_decide_eq_true (by first | (with_reducible assumption) | assumption)
                                              obtain ⟨ad123, A123_0, c123_0, e123, hx123_0, hx123_1, hl123_0, hi123_0⟩ := at_T35 (Kd.V_reads' HO_0.out).2.2 x12_4 p123 q123
                                              obtain rfl : ad119 = ad123 := (by injection e123)
                                              obtain ⟨ce123, hce123, hMe123, hcc123⟩ := Kd.V_get HO_0.out z35 x12_4 p123 (by first | exact q123 | exact of_decide_eq_true (by first | (with_reducible assumption) | assumption) | (have e_ := (Kd.V_reads' HO_0.out).1; omega))
                                              obtain ⟨ua123_0, uc123_0, rfl, ul123_0, ge123_0⟩ := k35_openF hMe123
                                              have hv123_0 := hcc123 0 _ rfl
                                              rw [Nat.add_zero] at hv123_0
                                              replace hv123_0 := Option.some.inj (hv123_0.symm.trans hx123_0)
                                              injection hv123_0 with hva_ hvn_ hvc_
                                              rw [hva_] at ge123_0
                                              rw [hvc_] at ul123_0
                                              have HL123_0 := Aside0.mk (show Kd.V k56 56 _ w.heap.size _ _ ((rd_T35 l0 x12_4).f0) from Kd.V_mk ul123_0 ge123_0)
                                              clear hva_ hvn_ hvc_ ge123_0 ul123_0
                                              clear hcc123 hce123
                                              have HR123_0 := Aside0.mk hi123_0
                                              have HC123_0 := Aside0.mk hl123_0
                                              clear hi123_0 hl123_0
                                              replace p123 := eq_true p123
                                              replace q123 := eq_true q123
                                              have ea_ := Option.some.inj (hx122_0.symm.trans hx123_0)
                                              injection ea_ with ea_ en_ ec_
                                              subst ea_
                                              subst ec_
                                              clear en_
                                              try go_wp2
                                              go_roundg k4
                                              case measure => have := HK1.out; have := HJ18.out; have := HK3.out; have := HK4.out; omega
                                              case rel => exact ⟨(wrap64 (x10_4 + (((rd_T35 l0 x12_4).f1) / 2147483648))), (wrap64 (x11_4 + (Go.bits .and .i64 ((rd_T35 l0 x12_4).f1) 2147483647))), (wrap64 (x12_4 + 1)), (by first | rfl | (simp; done) | (simp [*]; done)), (by first | rfl | (simp; done) | (simp [*]; done)), (by first | rfl | (simp; done) | (simp [*]; done)), H', ⟨by have := HK1.out; have := HJ18.out; have := HK3.out; have := HK4.out; omega⟩, ⟨by (with_reducible repeat (first | apply Kd.V_alloc | apply Kd.V_drewN | apply Kd.V_drew)); exact HO_0.out⟩, ⟨by (with_reducible repeat (first | apply Kd.N_alloc | apply Kd.N_drewN | apply Kd.N_drew)); exact HO_3.out⟩, ⟨by repeat (first | (with_reducible first | exact HB.out | apply below_alloc | apply pw_below_drewN | apply below_drew1) | exact HB.out)⟩⟩
                                            · replace c38 := Bool.eq_false_iff.mpr c38
                                              subst c38
                                              have H1 : (freshetlaw03_ZsetWeights.l2 k4 l0 t102 x9_3 x10_4 x11_4 (wrap64 (x12_4 + 1))) = some r := by rw [if_neg (show ¬ (false = true) by decide)] at H; exact H
                                              clear H
                                              have H := H1
                                              clear H1
                                              have H' := Aside0.mk H
                                              clear H
                                              try go_wp2
                                              have n0_ := Aside0.mk (Kd.V_drew HO_0.out)
                                              have n1_ := Aside0.mk (Kd.N_drew HO_3.out)
                                              have n2_ := Aside0.mk (below_drew1 HB.out)
                                              clear HO_0
                                              clear HO_3
                                              clear HB
                                              have HO_0 := n0_
                                              have HO_3 := n1_
                                              have HB := n2_
                                              clear n0_ n1_ n2_
                                              have p119 : 0 ≤ (x9_3 : Int) := of_decide_eq_true (by first | (with_reducible assumption) | assumption)
                                              have q119 : x9_3 < (l0.length : Int) := of_decide_eq_true (by first | (with_reducible assumption) | assumption)
                                              obtain ⟨ad119, A119_0, c119_0, e119, hx119_0, hx119_1, hl119_0, hi119_0⟩ := at_T35 (Kd.V_reads' HO_0.out).2.2 x9_3 p119 q119
                                              cases e119
                                              obtain ⟨ce119, hce119, hMe119, hcc119⟩ := Kd.V_get HO_0.out z35 x9_3 p119 (by first | exact q119 | exact of_decide_eq_true (by first | (with_reducible assumption) | assumption) | (have e_ := (Kd.V_reads' HO_0.out).1; omega))
                                              obtain ⟨ua119_0, uc119_0, rfl, ul119_0, ge119_0⟩ := k35_openF hMe119
                                              have hv119_0 := hcc119 0 _ rfl
                                              rw [Nat.add_zero] at hv119_0
                                              replace hv119_0 := Option.some.inj (hv119_0.symm.trans hx119_0)
                                              injection hv119_0 with hva_ hvn_ hvc_
                                              rw [hva_] at ge119_0
                                              rw [hvc_] at ul119_0
                                              have HL119_0 := Aside0.mk (show Kd.V k56 56 _ w.heap.size _ _ ((rd_T35 l0 x9_3).f0) from Kd.V_mk ul119_0 ge119_0)
                                              clear hva_ hvn_ hvc_ ge119_0 ul119_0
                                              clear hcc119 hce119
                                              have HR119_0 := Aside0.mk hi119_0
                                              have HC119_0 := Aside0.mk hl119_0
                                              clear hi119_0 hl119_0
                                              replace p119 := eq_true p119
                                              replace q119 := eq_true q119
                                              have p120 : 0 ≤ (x12_4 : Int) := of_decide_eq_true (by first | (with_reducible assumption) | assumption)
                                              have q120 : x12_4 < (l0.length : Int) := of_decide_eq_true (by first | (with_reducible assumption) | assumption)
                                              obtain ⟨ad120, A120_0, c120_0, e120, hx120_0, hx120_1, hl120_0, hi120_0⟩ := at_T35 (Kd.V_reads' HO_0.out).2.2 x12_4 p120 q120
                                              obtain rfl : ad119 = ad120 := (by injection e120)
                                              obtain ⟨ce120, hce120, hMe120, hcc120⟩ := Kd.V_get HO_0.out z35 x12_4 p120 (by first | exact q120 | exact of_decide_eq_true (by first | (with_reducible assumption) | assumption) | (have e_ := (Kd.V_reads' HO_0.out).1; omega))
                                              obtain ⟨ua120_0, uc120_0, rfl, ul120_0, ge120_0⟩ := k35_openF hMe120
                                              have hv120_0 := hcc120 0 _ rfl
                                              rw [Nat.add_zero] at hv120_0
                                              replace hv120_0 := Option.some.inj (hv120_0.symm.trans hx120_0)
                                              injection hv120_0 with hva_ hvn_ hvc_
                                              rw [hva_] at ge120_0
                                              rw [hvc_] at ul120_0
                                              have HL120_0 := Aside0.mk (show Kd.V k56 56 _ w.heap.size _ _ ((rd_T35 l0 x12_4).f0) from Kd.V_mk ul120_0 ge120_0)
                                              clear hva_ hvn_ hvc_ ge120_0 ul120_0
                                              clear hcc120 hce120
                                              have HR120_0 := Aside0.mk hi120_0
                                              have HC120_0 := Aside0.mk hl120_0
                                              clear hi120_0 hl120_0
                                              replace p120 := eq_true p120
                                              replace q120 := eq_true q120
                                              refine start_ (n := 11) (S := fun w' => w'.cell? (ad119.add ((x9_3).toNat * 2)) = some (.slice A119_0 ((rd_T35 l0 x9_3).f0).length c119_0) ∧ w'.cell? ⟨(ad119.add ((x9_3).toNat * 2)).block, (ad119.add ((x9_3).toNat * 2)).off + 1, none⟩ = some (.int .i64 ((rd_T35 l0 x9_3).f1)) ∧ w'.cell? (ad119.add ((x12_4).toNat * 2)) = some (.slice A120_0 ((rd_T35 l0 x12_4).f0).length c120_0) ∧ w'.cell? ⟨(ad119.add ((x12_4).toNat * 2)).block, (ad119.add ((x12_4).toNat * 2)).off + 1, none⟩ = some (.int .i64 ((rd_T35 l0 x12_4).f1))) (ds := []) #[false, false, false, false, false, false, false, false, false, false, false] (by kernel_rfl) rfl rfl ⟨hx119_0, hx119_1, hx120_0, hx120_1⟩ (fun hHeld => ?_); refine with_tabW freshetlaw03_ZsetWeights.tab26 freshetlaw03_ZsetWeights.bits26 (fun HT_ HW_ => ?_)
                                              generalize wr.drew = w41 at HO_0 HO_3 HB HL119_0 HL120_0 HR119_0 HR120_0 hx119_0 hx119_1 hx120_0 hx120_1 hHeld ⊢
                                              refine pure_ (i := 0) (N := some 78) (v := ?_) (a' := ?_) #[true, false, false, false, false, false, false, false, false, false, false] rfl rfl (any_of HT_.out (by kernel_rfl)) (fun _ _ _ h => h) (Or.inl ⟨by rfl, ?_⟩) ?_ ?_
                                              rotate_left
                                              · intro w'
                                                go_simp
                                                with_reducible rfl
                                              rotate_left
                                              · simp only [Act.put, List.setIfInBounds_toArray, List.set_cons_zero, List.set_cons_succ, i64_w, i32_w]
                                                rfl
                                              refine pure_ (i := 1) (N := some 79) (v := ?_) (a' := ?_) #[true, true, false, false, false, false, false, false, false, false, false] rfl rfl (any_of HT_.out (by kernel_rfl)) (fun _ _ _ h => h) (Or.inl ⟨by rfl, ?_⟩) ?_ ?_
                                              rotate_left
                                              · intro w'
                                                go_simp
                                                with_reducible rfl
                                              rotate_left
                                              · simp only [Act.put, List.setIfInBounds_toArray, List.set_cons_zero, List.set_cons_succ, i64_w, i32_w]
                                                rfl
                                              refine pure_ (i := 2) (N := some 80) (v := ?_) (a' := ?_) #[true, true, true, false, false, false, false, false, false, false, false] rfl rfl (any_of HT_.out (by kernel_rfl)) (fun _ _ _ h => h) (Or.inl ⟨by rfl, ?_⟩) ?_ ?_
                                              rotate_left
                                              · intro w'
                                                go_simp
                                                with_reducible rfl
                                              rotate_left
                                              · simp only [Act.put, List.setIfInBounds_toArray, List.set_cons_zero, List.set_cons_succ, i64_w, i32_w]
                                                rfl
                                              refine pure_ (i := 3) (N := some 81) (v := ?_) (a' := ?_) #[true, true, true, true, false, false, false, false, false, false, false] rfl rfl (any_of HT_.out (by kernel_rfl)) (fun _ _ _ h => h) (Or.inl ⟨by rfl, ?_⟩) ?_ ?_
                                              rotate_left
                                              · intro w'
                                                go_simp
                                                with_reducible rfl
                                              rotate_left
                                              · simp only [Act.put, List.setIfInBounds_toArray, List.set_cons_zero, List.set_cons_succ, i64_w, i32_w]
                                                rfl
                                              refine pure_ (i := 5) (N := some 83) (v := ?_) (a' := ?_) #[true, true, true, true, false, true, false, false, false, false, false] rfl rfl (any_of HT_.out (by kernel_rfl)) (fun _ _ _ h => h) (Or.inl ⟨by rfl, ?_⟩) ?_ ?_
                                              rotate_left
                                              · intro w'
                                                go_simp
                                                with_reducible rfl
                                              rotate_left
                                              · simp only [Act.put, List.setIfInBounds_toArray, List.set_cons_zero, List.set_cons_succ, i64_w, i32_w]
                                                rfl
                                              refine pure_ (i := 6) (N := some 84) (v := ?_) (a' := ?_) #[true, true, true, true, false, true, true, false, false, false, false] rfl rfl (any_of HT_.out (by kernel_rfl)) (fun _ _ _ h => h) (Or.inl ⟨by rfl, ?_⟩) ?_ ?_
                                              rotate_left
                                              · intro w'
                                                go_simp
                                                with_reducible rfl
                                              rotate_left
                                              · simp only [Act.put, List.setIfInBounds_toArray, List.set_cons_zero, List.set_cons_succ, i64_w, i32_w]
                                                rfl
                                              refine pure_ (i := 7) (N := some 85) (v := ?_) (a' := ?_) #[true, true, true, true, false, true, true, true, false, false, false] rfl rfl (any_of HT_.out (by kernel_rfl)) (fun _ _ _ h => h) (Or.inl ⟨by rfl, ?_⟩) ?_ ?_
                                              rotate_left
                                              · intro w'
                                                go_simp
                                                with_reducible rfl
                                              rotate_left
                                              · simp only [Act.put, List.setIfInBounds_toArray, List.set_cons_zero, List.set_cons_succ, i64_w, i32_w]
                                                rfl
                                              refine pure_ (i := 8) (N := some 86) (v := ?_) (a' := ?_) #[true, true, true, true, false, true, true, true, true, false, false] rfl rfl (any_of HT_.out (by kernel_rfl)) (fun _ _ _ h => h) (Or.inl ⟨by rfl, ?_⟩) ?_ ?_
                                              rotate_left
                                              · intro w'
                                                go_simp
                                                with_reducible rfl
                                              rotate_left
                                              · simp only [Act.put, List.setIfInBounds_toArray, List.set_cons_zero, List.set_cons_succ, i64_w, i32_w]
                                                rfl
                                              refine take_ (i := 4) (N := some 82) (v := ?_) (a' := ?_) #[true, true, true, true, true, true, true, true, true, false, false] rfl rfl (take_ofW HT_.out HW_.out (by kernel_rfl)) (fun _ _ _ h => h) (Or.inl ⟨by rfl, ?_⟩) hHeld ?_ ?_
                                              rotate_left
                                              · rintro w' ⟨s0, s1, s2, s3⟩
                                                go_simp
                                                with_reducible rfl
                                              rotate_left
                                              · simp only [Act.put, List.setIfInBounds_toArray, List.set_cons_zero, List.set_cons_succ, i64_w, i32_w]
                                                rfl
                                              refine take_ (i := 9) (N := some 87) (v := ?_) (a' := ?_) #[true, true, true, true, true, true, true, true, true, true, false] rfl rfl (take_ofW HT_.out HW_.out (by kernel_rfl)) (fun _ _ _ h => h) (Or.inl ⟨by rfl, ?_⟩) hHeld ?_ ?_
                                              rotate_left
                                              · rintro w' ⟨s0, s1, s2, s3⟩
                                                go_simp
                                                with_reducible rfl
                                              rotate_left
                                              · simp only [Act.put, List.setIfInBounds_toArray, List.set_cons_zero, List.set_cons_succ, i64_w, i32_w]
                                                rfl
                                              refine one_ (i := 10) (N := some 88) #[true, true, true, true, true, true, true, true, true, true, true] rfl rfl (one_of HT_.out (by kernel_rfl)) (by decide) (fun K hK => ?_)
                                              refine goes_ Tryd.func16 (by kernel_rfl) rfl #[.slice A119_0 ((rd_T35 l0 x9_3).f0).length c119_0, .slice A120_0 ((rd_T35 l0 x12_4).f0).length c120_0] (by rfl) rfl rfl (by (try simp only [List.map_toArray, List.map_cons, List.map_nil]); first | done | rfl | (simp only [List.length_drop, List.length_take]; rfl)) ?_
                                              with_reducible refine (xSameR.calls _ _ ((rd_T35 l0 x9_3).f0) _ _ ((rd_T35 l0 x12_4).f0) false _ ?side1 ?side2 ?side3 ?side4 ?side5 A37.out).mono ?_
                                              (case side1 => repeat (first | exact (by repeat (first | (with_reducible exact HR119_0.out) | (with_reducible refine Kd.C_alloc ?_ _) | (with_reducible refine Kd.C_drewN ?_ _) | (with_reducible refine Kd.C_drew ?_) | exact HR119_0.out)) | (with_reducible refine Kd.C_alloc ?_ _) | (with_reducible refine Kd.C_drewN ?_ _) | (with_reducible refine Kd.C_drew ?_)))
                                              (case side2 => exact HC119_0.out)
                                              (case side3 => repeat (first | exact (by repeat (first | (with_reducible exact HR120_0.out) | (with_reducible refine Kd.C_alloc ?_ _) | (with_reducible refine Kd.C_drewN ?_ _) | (with_reducible refine Kd.C_drew ?_) | exact HR120_0.out)) | (with_reducible refine Kd.C_alloc ?_ _) | (with_reducible refine Kd.C_drewN ?_ _) | (with_reducible refine Kd.C_drew ?_)))
                                              (case side4 => exact HC120_0.out)
                                              (case side5 => first | exact HT.out | exact tab_at HT.out (by repeat (first | (with_reducible first | exact HB.out | apply below_alloc | apply pw_below_drewN | apply below_drew1) | exact HB.out)) | (repeat (first | exact HT.out | refine tab_drewN ?_ | refine tab_drew ?_)))
                                              rintro e w42 ⟨rfl, hb⟩
                                              have HS0_ := (hb.cell (World.block_lt_of_cell? _ _ (hHeld.1))).trans (hHeld.1)
                                              have HS1_ := (hb.cell (World.block_lt_of_cell? _ _ (hHeld.2.1))).trans (hHeld.2.1)
                                              have HS2_ := (hb.cell (World.block_lt_of_cell? _ _ (hHeld.2.2.1))).trans (hHeld.2.2.1)
                                              have HS3_ := (hb.cell (World.block_lt_of_cell? _ _ (hHeld.2.2.2))).trans (hHeld.2.2.2)
                                              refine ⟨_, rfl, ?_⟩
                                              have n0_ := Aside0.mk (Kd.V_below (by (with_reducible repeat (first | apply Kd.V_alloc | apply Kd.V_drewN | apply Kd.V_drew)); exact HO_0.out) hb)
                                              have n1_ := Aside0.mk (Kd.N_below (by (with_reducible repeat (first | apply Kd.N_alloc | apply Kd.N_drewN | apply Kd.N_drew)); exact HO_3.out) hb)
                                              have n2_ := Aside0.mk (Kd.V_below (by (with_reducible repeat (first | apply Kd.V_alloc | apply Kd.V_drewN | apply Kd.V_drew)); exact HL119_0.out) hb)
                                              have n3_ := Aside0.mk (Kd.V_below (by (with_reducible repeat (first | apply Kd.V_alloc | apply Kd.V_drewN | apply Kd.V_drew)); exact HL120_0.out) hb)
                                              have n4_ := Aside0.mk (Kd.C_below (by repeat (first | (with_reducible exact HR119_0.out) | (with_reducible refine Kd.C_alloc ?_ _) | (with_reducible refine Kd.C_drewN ?_ _) | (with_reducible refine Kd.C_drew ?_) | exact HR119_0.out)) hb)
                                              have n5_ := Aside0.mk (Kd.C_below (by repeat (first | (with_reducible exact HR120_0.out) | (with_reducible refine Kd.C_alloc ?_ _) | (with_reducible refine Kd.C_drewN ?_ _) | (with_reducible refine Kd.C_drew ?_) | exact HR120_0.out)) hb)
                                              have n6_ := Aside0.mk (below_step (by repeat (first | (with_reducible first | exact HB.out | apply below_alloc | apply pw_below_drewN | apply below_drew1) | exact HB.out)) hb)
                                              clear HO_0
                                              clear HO_3
                                              clear HL119_0
                                              clear HL120_0
                                              clear HR119_0
                                              clear HR120_0
                                              clear HB
                                              have HO_0 := n0_
                                              have HO_3 := n1_
                                              have HL119_0 := n2_
                                              have HL120_0 := n3_
                                              have HR119_0 := n4_
                                              have HR120_0 := n5_
                                              have HB := n6_
                                              clear n0_ n1_ n2_ n3_ n4_ n5_ n6_
                                              (try clear hb)
                                              (try clear hb2)
                                              (try clear hk)
                                              (try clear hi)
                                              refine hK.out _ _ ⟨HS0_, HS1_, HS2_, HS3_⟩ (fun hHeld => ?_)
                                              clear hK K
                                              refine norm_ (a' := ?_) ?_ ?_
                                              rotate_left
                                              · show Act.put _ (some 88) _ = _
                                                simp only [Act.put, List.setIfInBounds_toArray, List.set_cons_zero, List.set_cons_succ, i64_w, i32_w]
                                                rfl
                                              refine done_ (done_of HT_.out (by kernel_rfl)) ?_
                                              try go_wp2
                                              go_roundg k4
                                              case measure => have := HK1.out; have := HJ18.out; have := HK3.out; have := HK4.out; omega
                                              case rel => exact ⟨(x10_4), (x11_4), (wrap64 (x12_4 + 1)), (by first | rfl | (simp; done) | (simp [*]; done)), (by first | rfl | (simp; done) | (simp [*]; done)), (by first | rfl | (simp; done) | (simp [*]; done)), H', ⟨by have := HK1.out; have := HJ18.out; have := HK3.out; have := HK4.out; omega⟩, ⟨by (with_reducible repeat (first | apply Kd.V_alloc | apply Kd.V_drewN | apply Kd.V_drew)); exact HO_0.out⟩, ⟨by (with_reducible repeat (first | apply Kd.N_alloc | apply Kd.N_drewN | apply Kd.N_drew)); exact HO_3.out⟩, ⟨by repeat (first | (with_reducible first | exact HB.out | apply below_alloc | apply pw_below_drewN | apply below_drew1) | exact HB.out)⟩⟩
                                          · rw [if_neg c36] at H
                                            exact absurd H (by simp)
                                        · rw [if_neg c35] at H
                                          exact absurd H (by simp)
                                      · rw [if_neg c34] at H
                                        exact absurd H (by simp)
                                    · rw [if_neg c33] at H
                                      have c33b0 : decide (x12_4 < (l0.length : Int)) = false := decide_eq_false c33
                                      clear c33
                                      by_cases c43 : 0 ≤ x9_3
                                      · rw [if_pos c43] at H
                                        have c43b0 : decide (0 ≤ x9_3) = true := decide_eq_true c43
                                        clear c43
                                        by_cases c44 : x9_3 < (l0.length : Int)
                                        · rw [if_pos c44] at H
                                          have c44b0 : decide (x9_3 < (l0.length : Int)) = true := decide_eq_true c44
                                          clear c44
                                          replace H := Option.bind_eq_some_iff.mp H
                                          obtain ⟨t125, A450, H⟩ := H
                                          replace H : (if (t125 / 2147483648) = (wrap64 (x10_4 + (x11_4 / 2147483648))) then (if (Go.bits .and .i64 t125 2147483647) = (Go.bits .and .i64 x11_4 2147483647) then (freshetlaw03_ZsetWeights.l1 k4 l0 t102 (wrap64 (x9_3 + 1))) else (some false)) else (some false)) = some r := H
                                          have A45 := Aside0.mk A450
                                          clear A450
                                          by_cases c46 : (t125 / 2147483648) = (wrap64 (x10_4 + (x11_4 / 2147483648)))
                                          · rw [if_pos c46] at H
                                            have c46b0 : ((t125 / 2147483648) == (wrap64 (x10_4 + (x11_4 / 2147483648)))) = true := beq_iff_eq.mpr c46
                                            have c46b1 : ((t125 / 2147483648) != (wrap64 (x10_4 + (x11_4 / 2147483648)))) = false := bne_eq_false_iff_eq.mpr c46
                                            clear c46
                                            by_cases c47 : (Go.bits .and .i64 t125 2147483647) = (Go.bits .and .i64 x11_4 2147483647)
                                            · rw [if_pos c47] at H
                                              have c47b0 : ((Go.bits .and .i64 t125 2147483647) == (Go.bits .and .i64 x11_4 2147483647)) = true := beq_iff_eq.mpr c47
                                              have c47b1 : ((Go.bits .and .i64 t125 2147483647) != (Go.bits .and .i64 x11_4 2147483647)) = false := bne_eq_false_iff_eq.mpr c47
                                              clear c47
                                              have H' := Aside0.mk H
                                              clear H
                                              have p124 : 0 ≤ (x9_3 : Int) := of_decide_eq_true (by first | (with_reducible assumption) | assumption)
                                              have q124 : x9_3 < (l0.length : Int) := of_decide_eq_true (by first | (with_reducible assumption) | assumption)
                                              obtain ⟨ad124, A124_0, c124_0, e124, hx124_0, hx124_1, hl124_0, hi124_0⟩ := at_T35 (Kd.V_reads' HO_0.out).2.2 x9_3 p124 q124
                                              cases e124
                                              obtain ⟨ce124, hce124, hMe124, hcc124⟩ := Kd.V_get HO_0.out z35 x9_3 p124 (by first | exact q124 | exact of_decide_eq_true (by first | (with_reducible assumption) | assumption) | (have e_ := (Kd.V_reads' HO_0.out).1; omega))
                                              obtain ⟨ua124_0, uc124_0, rfl, ul124_0, ge124_0⟩ := k35_openF hMe124
                                              have hv124_0 := hcc124 0 _ rfl
                                              rw [Nat.add_zero] at hv124_0
                                              replace hv124_0 := Option.some.inj (hv124_0.symm.trans hx124_0)
                                              injection hv124_0 with hva_ hvn_ hvc_
                                              rw [hva_] at ge124_0
                                              rw [hvc_] at ul124_0
                                              have HL124_0 := Aside0.mk (show Kd.V k56 56 _ w.heap.size _ _ ((rd_T35 l0 x9_3).f0) from Kd.V_mk ul124_0 ge124_0)
                                              clear hva_ hvn_ hvc_ ge124_0 ul124_0
                                              clear hcc124 hce124
                                              have HR124_0 := Aside0.mk hi124_0
                                              have HC124_0 := Aside0.mk hl124_0
                                              clear hi124_0 hl124_0
                                              replace p124 := eq_true p124
                                              replace q124 := eq_true q124
                                              go_wp2_with (first | ((with_reducible refine gate_callee (f := 17) rfl ?_); refine goesL_ (some 111) rfl rfl Tryd.func17 (by kernel_rfl) rfl #[.slice Ao30 t102.length co30, .slice A124_0 ((rd_T35 l0 x9_3).f0).length c124_0] rfl (by (try simp only [List.map_toArray, List.map_cons, List.map_nil]); first | done | rfl | (simp only [List.length_drop, List.length_take]; rfl)) ?_; (with_reducible refine (xWeight.calls _ _ t102 _ _ ((rd_T35 l0 x9_3).f0) t125 _ ?side1 ?side2 ?side3 ?side4 A45.out).mono ?_); (case side1 => repeat (first | exact (Kd.N_reads' HO_3.out).2.2 | (with_reducible refine Kd.C_alloc ?_ _) | (with_reducible refine Kd.C_drewN ?_ _) | (with_reducible refine Kd.C_drew ?_))); (case side2 => exact (Kd.N_reads' HO_3.out).2.1); (case side3 => repeat (first | exact (by repeat (first | (with_reducible exact HR124_0.out) | (with_reducible refine Kd.C_alloc ?_ _) | (with_reducible refine Kd.C_drewN ?_ _) | (with_reducible refine Kd.C_drew ?_) | exact HR124_0.out)) | (with_reducible refine Kd.C_alloc ?_ _) | (with_reducible refine Kd.C_drewN ?_ _) | (with_reducible refine Kd.C_drew ?_))); (case side4 => exact HC124_0.out); rintro e w48 ⟨rfl, hb⟩; refine ⟨_, rfl, ?_⟩; have n0_ := Aside0.mk (Kd.V_below (by (with_reducible repeat (first | apply Kd.V_alloc | apply Kd.V_drewN | apply Kd.V_drew)); exact HO_0.out) hb); have n1_ := Aside0.mk (Kd.N_below (by (with_reducible repeat (first | apply Kd.N_alloc | apply Kd.N_drewN | apply Kd.N_drew)); exact HO_3.out) hb); have n2_ := Aside0.mk (Kd.V_below (by (with_reducible repeat (first | apply Kd.V_alloc | apply Kd.V_drewN | apply Kd.V_drew)); exact HL124_0.out) hb); have n3_ := Aside0.mk (Kd.C_below (by repeat (first | (with_reducible exact HR124_0.out) | (with_reducible refine Kd.C_alloc ?_ _) | (with_reducible refine Kd.C_drewN ?_ _) | (with_reducible refine Kd.C_drew ?_) | exact HR124_0.out)) hb); have n4_ := Aside0.mk (below_step (by repeat (first | (with_reducible first | exact HB.out | apply below_alloc | apply pw_below_drewN | apply below_drew1) | exact HB.out)) hb); clear HO_0; clear HO_3; clear HL124_0; clear HR124_0; clear HB; have HO_0 := n0_; have HO_3 := n1_; have HL124_0 := n2_; have HR124_0 := n3_; have HB := n4_; clear n0_ n1_ n2_ n3_ n4_; (try clear hb); (try clear hb2); (try clear hk); (try clear hi)))
                                              go_roundg k4
                                              case measure => have := HK1.out; have := HJ18.out; have := HK3.out; have := HK4.out; omega
                                              case rel => exact ⟨(wrap64 (x9_3 + 1)), (by first | rfl | (simp; done) | (simp [*]; done)), H', ⟨by have := HK1.out; have := HJ18.out; have := HK3.out; have := HK4.out; omega⟩, ⟨by (with_reducible repeat (first | apply Kd.V_alloc | apply Kd.V_drewN | apply Kd.V_drew)); exact HO_0.out⟩, ⟨by (with_reducible repeat (first | apply Kd.N_alloc | apply Kd.N_drewN | apply Kd.N_drew)); exact HO_3.out⟩, ⟨by repeat (first | (with_reducible first | exact HB.out | apply below_alloc | apply pw_below_drewN | apply below_drew1) | exact HB.out)⟩⟩
                                            · rw [if_neg c47] at H
                                              have c47b0 : ((Go.bits .and .i64 t125 2147483647) == (Go.bits .and .i64 x11_4 2147483647)) = false := beq_eq_false_iff_ne.mpr c47
                                              have c47b1 : ((Go.bits .and .i64 t125 2147483647) != (Go.bits .and .i64 x11_4 2147483647)) = true := bne_iff_ne.mpr c47
                                              obtain rfl := Option.some.inj H
                                              have p124 : 0 ≤ (x9_3 : Int) := of_decide_eq_true (by first | (with_reducible assumption) | assumption)
                                              have q124 : x9_3 < (l0.length : Int) := of_decide_eq_true (by first | (with_reducible assumption) | assumption)
                                              obtain ⟨ad124, A124_0, c124_0, e124, hx124_0, hx124_1, hl124_0, hi124_0⟩ := at_T35 (Kd.V_reads' HO_0.out).2.2 x9_3 p124 q124
                                              cases e124
                                              obtain ⟨ce124, hce124, hMe124, hcc124⟩ := Kd.V_get HO_0.out z35 x9_3 p124 (by first | exact q124 | exact of_decide_eq_true (by first | (with_reducible assumption) | assumption) | (have e_ := (Kd.V_reads' HO_0.out).1; omega))
                                              obtain ⟨ua124_0, uc124_0, rfl, ul124_0, ge124_0⟩ := k35_openF hMe124
                                              have hv124_0 := hcc124 0 _ rfl
                                              rw [Nat.add_zero] at hv124_0
                                              replace hv124_0 := Option.some.inj (hv124_0.symm.trans hx124_0)
                                              injection hv124_0 with hva_ hvn_ hvc_
                                              rw [hva_] at ge124_0
                                              rw [hvc_] at ul124_0
                                              have HL124_0 := Aside0.mk (show Kd.V k56 56 _ w.heap.size _ _ ((rd_T35 l0 x9_3).f0) from Kd.V_mk ul124_0 ge124_0)
                                              clear hva_ hvn_ hvc_ ge124_0 ul124_0
                                              clear hcc124 hce124
                                              have HR124_0 := Aside0.mk hi124_0
                                              have HC124_0 := Aside0.mk hl124_0
                                              clear hi124_0 hl124_0
                                              replace p124 := eq_true p124
                                              replace q124 := eq_true q124
                                              go_wp2_with (first | ((with_reducible refine gate_callee (f := 17) rfl ?_); refine goesL_ (some 111) rfl rfl Tryd.func17 (by kernel_rfl) rfl #[.slice Ao30 t102.length co30, .slice A124_0 ((rd_T35 l0 x9_3).f0).length c124_0] rfl (by (try simp only [List.map_toArray, List.map_cons, List.map_nil]); first | done | rfl | (simp only [List.length_drop, List.length_take]; rfl)) ?_; (with_reducible refine (xWeight.calls _ _ t102 _ _ ((rd_T35 l0 x9_3).f0) t125 _ ?side1 ?side2 ?side3 ?side4 A45.out).mono ?_); (case side1 => repeat (first | exact (Kd.N_reads' HO_3.out).2.2 | (with_reducible refine Kd.C_alloc ?_ _) | (with_reducible refine Kd.C_drewN ?_ _) | (with_reducible refine Kd.C_drew ?_))); (case side2 => exact (Kd.N_reads' HO_3.out).2.1); (case side3 => repeat (first | exact (by repeat (first | (with_reducible exact HR124_0.out) | (with_reducible refine Kd.C_alloc ?_ _) | (with_reducible refine Kd.C_drewN ?_ _) | (with_reducible refine Kd.C_drew ?_) | exact HR124_0.out)) | (with_reducible refine Kd.C_alloc ?_ _) | (with_reducible refine Kd.C_drewN ?_ _) | (with_reducible refine Kd.C_drew ?_))); (case side4 => exact HC124_0.out); rintro e w49 ⟨rfl, hb⟩; refine ⟨_, rfl, ?_⟩; have n0_ := Aside0.mk (Kd.V_below (by (with_reducible repeat (first | apply Kd.V_alloc | apply Kd.V_drewN | apply Kd.V_drew)); exact HO_0.out) hb); have n1_ := Aside0.mk (Kd.N_below (by (with_reducible repeat (first | apply Kd.N_alloc | apply Kd.N_drewN | apply Kd.N_drew)); exact HO_3.out) hb); have n2_ := Aside0.mk (Kd.V_below (by (with_reducible repeat (first | apply Kd.V_alloc | apply Kd.V_drewN | apply Kd.V_drew)); exact HL124_0.out) hb); have n3_ := Aside0.mk (Kd.C_below (by repeat (first | (with_reducible exact HR124_0.out) | (with_reducible refine Kd.C_alloc ?_ _) | (with_reducible refine Kd.C_drewN ?_ _) | (with_reducible refine Kd.C_drew ?_) | exact HR124_0.out)) hb); have n4_ := Aside0.mk (below_step (by repeat (first | (with_reducible first | exact HB.out | apply below_alloc | apply pw_below_drewN | apply below_drew1) | exact HB.out)) hb); clear HO_0; clear HO_3; clear HL124_0; clear HR124_0; clear HB; have HO_0 := n0_; have HO_3 := n1_; have HL124_0 := n2_; have HR124_0 := n3_; have HB := n4_; clear n0_ n1_ n2_ n3_ n4_; (try clear hb); (try clear hb2); (try clear hk); (try clear hi)))
                                              go_ret
                                              exact ⟨by first | rfl | (simp [errW_none, errW_some] <;> rfl) | (simp [*, errW_none, errW_some] <;> rfl), by repeat (first | (with_reducible first | exact HB.out | apply below_alloc | apply pw_below_drewN | apply below_drew1) | exact HB.out)⟩
                                          · rw [if_neg c46] at H
                                            have c46b0 : ((t125 / 2147483648) == (wrap64 (x10_4 + (x11_4 / 2147483648)))) = false := beq_eq_false_iff_ne.mpr c46
                                            have c46b1 : ((t125 / 2147483648) != (wrap64 (x10_4 + (x11_4 / 2147483648)))) = true := bne_iff_ne.mpr c46
                                            obtain rfl := Option.some.inj H
                                            have p124 : 0 ≤ (x9_3 : Int) := of_decide_eq_true (by first | (with_reducible assumption) | assumption)
                                            have q124 : x9_3 < (l0.length : Int) := of_decide_eq_true (by first | (with_reducible assumption) | assumption)
                                            obtain ⟨ad124, A124_0, c124_0, e124, hx124_0, hx124_1, hl124_0, hi124_0⟩ := at_T35 (Kd.V_reads' HO_0.out).2.2 x9_3 p124 q124
                                            cases e124
                                            obtain ⟨ce124, hce124, hMe124, hcc124⟩ := Kd.V_get HO_0.out z35 x9_3 p124 (by first | exact q124 | exact of_decide_eq_true (by first | (with_reducible assumption) | assumption) | (have e_ := (Kd.V_reads' HO_0.out).1; omega))
                                            obtain ⟨ua124_0, uc124_0, rfl, ul124_0, ge124_0⟩ := k35_openF hMe124
                                            have hv124_0 := hcc124 0 _ rfl
                                            rw [Nat.add_zero] at hv124_0
                                            replace hv124_0 := Option.some.inj (hv124_0.symm.trans hx124_0)
                                            injection hv124_0 with hva_ hvn_ hvc_
                                            rw [hva_] at ge124_0
                                            rw [hvc_] at ul124_0
                                            have HL124_0 := Aside0.mk (show Kd.V k56 56 _ w.heap.size _ _ ((rd_T35 l0 x9_3).f0) from Kd.V_mk ul124_0 ge124_0)
                                            clear hva_ hvn_ hvc_ ge124_0 ul124_0
                                            clear hcc124 hce124
                                            have HR124_0 := Aside0.mk hi124_0
                                            have HC124_0 := Aside0.mk hl124_0
                                            clear hi124_0 hl124_0
                                            replace p124 := eq_true p124
                                            replace q124 := eq_true q124
                                            go_wp2_with (first | ((with_reducible refine gate_callee (f := 17) rfl ?_); refine goesL_ (some 111) rfl rfl Tryd.func17 (by kernel_rfl) rfl #[.slice Ao30 t102.length co30, .slice A124_0 ((rd_T35 l0 x9_3).f0).length c124_0] rfl (by (try simp only [List.map_toArray, List.map_cons, List.map_nil]); first | done | rfl | (simp only [List.length_drop, List.length_take]; rfl)) ?_; (with_reducible refine (xWeight.calls _ _ t102 _ _ ((rd_T35 l0 x9_3).f0) t125 _ ?side1 ?side2 ?side3 ?side4 A45.out).mono ?_); (case side1 => repeat (first | exact (Kd.N_reads' HO_3.out).2.2 | (with_reducible refine Kd.C_alloc ?_ _) | (with_reducible refine Kd.C_drewN ?_ _) | (with_reducible refine Kd.C_drew ?_))); (case side2 => exact (Kd.N_reads' HO_3.out).2.1); (case side3 => repeat (first | exact (by repeat (first | (with_reducible exact HR124_0.out) | (with_reducible refine Kd.C_alloc ?_ _) | (with_reducible refine Kd.C_drewN ?_ _) | (with_reducible refine Kd.C_drew ?_) | exact HR124_0.out)) | (with_reducible refine Kd.C_alloc ?_ _) | (with_reducible refine Kd.C_drewN ?_ _) | (with_reducible refine Kd.C_drew ?_))); (case side4 => exact HC124_0.out); rintro e w50 ⟨rfl, hb⟩; refine ⟨_, rfl, ?_⟩; have n0_ := Aside0.mk (Kd.V_below (by (with_reducible repeat (first | apply Kd.V_alloc | apply Kd.V_drewN | apply Kd.V_drew)); exact HO_0.out) hb); have n1_ := Aside0.mk (Kd.N_below (by (with_reducible repeat (first | apply Kd.N_alloc | apply Kd.N_drewN | apply Kd.N_drew)); exact HO_3.out) hb); have n2_ := Aside0.mk (Kd.V_below (by (with_reducible repeat (first | apply Kd.V_alloc | apply Kd.V_drewN | apply Kd.V_drew)); exact HL124_0.out) hb); have n3_ := Aside0.mk (Kd.C_below (by repeat (first | (with_reducible exact HR124_0.out) | (with_reducible refine Kd.C_alloc ?_ _) | (with_reducible refine Kd.C_drewN ?_ _) | (with_reducible refine Kd.C_drew ?_) | exact HR124_0.out)) hb); have n4_ := Aside0.mk (below_step (by repeat (first | (with_reducible first | exact HB.out | apply below_alloc | apply pw_below_drewN | apply below_drew1) | exact HB.out)) hb); clear HO_0; clear HO_3; clear HL124_0; clear HR124_0; clear HB; have HO_0 := n0_; have HO_3 := n1_; have HL124_0 := n2_; have HR124_0 := n3_; have HB := n4_; clear n0_ n1_ n2_ n3_ n4_; (try clear hb); (try clear hb2); (try clear hk); (try clear hi)))
                                            go_ret
                                            exact ⟨by first | rfl | (simp [errW_none, errW_some] <;> rfl) | (simp [*, errW_none, errW_some] <;> rfl), by repeat (first | (with_reducible first | exact HB.out | apply below_alloc | apply pw_below_drewN | apply below_drew1) | exact HB.out)⟩
                                        · rw [if_neg c44] at H
                                          exact absurd H (by simp)
                                      · rw [if_neg c43] at H
                                        exact absurd H (by simp)
                              · rw [if_neg c32] at H
                                have c32b0 : decide (x9_3 < (l0.length : Int)) = false := decide_eq_false c32
                                clear c32
                                replace H := Option.bind_eq_some_iff.mp H
                                obtain ⟨⟨t126, t127⟩, A510, H⟩ := H
                                replace H : (if t127 = 0 then ((xZSound.f t126).bind fun t130 => (freshetlaw03_ZsetWeights.j4 k3 t102 t126 (!t130))) else (freshetlaw03_ZsetWeights.j4 k3 t102 t126 true)) = some r := H
                                have A51 := Aside0.mk A510
                                clear A510
                                have HC52 := Aside0.mk H
                                clear H
                                go_upto_region 33 with (first | ((with_reducible refine gate_callee (f := 18) rfl ?_); refine goesL_ (some 128) rfl rfl Tryd.func18 (by kernel_rfl) rfl #[.slice Ao30 t102.length co30] rfl (by (try simp only [List.map_toArray, List.map_cons, List.map_nil]); first | done | rfl | (simp only [List.length_drop, List.length_take]; rfl)) ?_; (with_reducible refine (zset_Distinct.calls k3 _ _ t102 t126 t127 _ ?side1 ?side2 A51.out).mono ?_); (case side1 => repeat (first | exact (Kd.N_reads' HO_3.out).2.2 | (with_reducible refine Kd.C_alloc ?_ _) | (with_reducible refine Kd.C_drewN ?_ _) | (with_reducible refine Kd.C_drew ?_))); (case side2 => exact (Kd.N_reads' HO_3.out).2.1); rintro e w53 ⟨v128, rfl, ho0, hb⟩; refine ⟨_, rfl, ?_⟩; have n0_ := Aside0.mk (Kd.V_elder' (by (with_reducible repeat (first | apply Kd.V_alloc | apply Kd.V_drewN | apply Kd.V_drew)); exact HO_0.out) (Kd.R_base ho0) hb); have n1_ := Aside0.mk (Kd.N_elder' (by (with_reducible repeat (first | apply Kd.N_alloc | apply Kd.N_drewN | apply Kd.N_drew)); exact HO_3.out) (Kd.R_base ho0) hb); have n2_ := Aside0.mk (Kd.N_lower (Kd.N_mono (ok' := fun k_ => (P0_ k_ ∨ w.heap.size ≤ k_) ∧ some k_ ≠ (.slice Ao30 t102.length co30 : Value).ownBlock) (Kd.R_N (Kd.R_bound ho0)) (fun k_ hk_ => ⟨(.inr (Nat.le_trans (below_size (by repeat (first | (with_reducible first | exact HB.out | apply below_alloc | apply pw_below_drewN | apply below_drew1) | exact HB.out))) hk_.2.1)), (Kd.fresh' (Kd.N_lt (by (with_reducible repeat (first | apply Kd.N_alloc | apply Kd.N_drewN | apply Kd.N_drew)); exact HO_3.out)) k_ hk_.2.1)⟩)) (below_size (by repeat (first | (with_reducible first | exact HB.out | apply below_alloc | apply pw_below_drewN | apply below_drew1) | exact HB.out)))); have n3_ := Aside0.mk (below_step (by repeat (first | (with_reducible first | exact HB.out | apply below_alloc | apply pw_below_drewN | apply below_drew1) | exact HB.out)) hb); clear HO_0; clear HO_3; clear HB; have HO_0 := n0_; have HO_3 := n1_; have HO129 := n2_; have HB := n3_; clear n0_ n1_ n2_ n3_; (try clear hb); (try clear hb2); (try clear hk); (try clear hi); (try clear ho0)))
                                (try simp only [Act.put, List.setIfInBounds_toArray, List.set_cons_zero, List.set_cons_succ])
                                go_cut [137] (fun v137 wc => ∃ (kq : Nat) (x137_51 : Bool), v137 = .bool x137_51 ∧ Aside0 (freshetlaw03_ZsetWeights.j4 kq t102 t126 x137_51 = some r) ∧ Aside0 (kq ≤ k3) ∧ Aside0 (Kd.N k35 35 wc w.heap.size (fun k_ => (P0_ k_ ∨ w.heap.size ≤ k_) ∧ some k_ ≠ (v128 : Value).ownBlock) (.slice Ao30 t102.length co30) t102) ∧ Aside0 (Kd.N k35 35 wc w.heap.size (fun k_ => (P0_ k_ ∨ w.heap.size ≤ k_) ∧ some k_ ≠ ((.slice Ao30 t102.length co30) : Value).ownBlock) v128 t126) ∧ Aside0 (Below w.heap.size w wc))
                                case first =>
                                  have H := HC52.out
                                  clear HC52
                                  by_cases c54 : t127 = 0
                                  · rw [if_pos c54] at H
                                    have c54b0 : (t127 == 0) = true := beq_iff_eq.mpr c54
                                    have c54b1 : (t127 != 0) = false := bne_eq_false_iff_eq.mpr c54
                                    clear c54
                                    (first | rw [c54b0] | (simp only [i64_w, i32_w]; rw [c54b0]) | skip)
                                    replace H := Option.bind_eq_some_iff.mp H
                                    obtain ⟨t130, A550, H⟩ := H
                                    replace H : (freshetlaw03_ZsetWeights.j4 k3 t102 t126 (!t130)) = some r := H
                                    have A55 := Aside0.mk A550
                                    clear A550
                                    have H' := Aside0.mk H
                                    clear H
                                    obtain ⟨Ao56, co56, eo56⟩ := Kd.N_slice HO129.out
                                    subst eo56
                                    go_wp2_with (first | (go_at_call 11; (with_reducible refine (xZSound.calls _ _ t126 t130 _ ?side1 ?side2 A55.out).mono ?_); (case side1 => repeat (first | exact (Kd.N_reads' HO129.out).2.2 | (with_reducible refine Kd.C_alloc ?_ _) | (with_reducible refine Kd.C_drewN ?_ _) | (with_reducible refine Kd.C_drew ?_))); (case side2 => exact (Kd.N_reads' HO129.out).2.1); rintro e w57 ⟨rfl, hb⟩; have n0_ := Aside0.mk (Kd.V_below (by (with_reducible repeat (first | apply Kd.V_alloc | apply Kd.V_drewN | apply Kd.V_drew)); exact HO_0.out) hb); have n1_ := Aside0.mk (Kd.N_below (by (with_reducible repeat (first | apply Kd.N_alloc | apply Kd.N_drewN | apply Kd.N_drew)); exact HO_3.out) hb); have n2_ := Aside0.mk (Kd.N_below (by (with_reducible repeat (first | apply Kd.N_alloc | apply Kd.N_drewN | apply Kd.N_drew)); exact HO129.out) hb); have n3_ := Aside0.mk (below_step (by repeat (first | (with_reducible first | exact HB.out | apply below_alloc | apply pw_below_drewN | apply below_drew1) | exact HB.out)) hb); clear HO_0; clear HO_3; clear HO129; clear HB; have HO_0 := n0_; have HO_3 := n1_; have HO129 := n2_; have HB := n3_; clear n0_ n1_ n2_ n3_; (try clear hb); (try clear hb2); (try clear hk); (try clear hi)))
                                    go_meet
                                    case rel => exact ⟨_, (!t130), (by first | rfl | (simp; done) | (simp [*]; done)), H', ⟨by have := HK1.out; have := HJ18.out; have := HK3.out; first | omega | exact Nat.le_refl _⟩, ⟨by (with_reducible repeat (first | apply Kd.N_alloc | apply Kd.N_drewN | apply Kd.N_drew)); exact HO_3.out⟩, ⟨by (with_reducible repeat (first | apply Kd.N_alloc | apply Kd.N_drewN | apply Kd.N_drew)); exact HO129.out⟩, ⟨by repeat (first | (with_reducible first | exact HB.out | apply below_alloc | apply pw_below_drewN | apply below_drew1) | exact HB.out)⟩⟩
                                  · rw [if_neg c54] at H
                                    have c54b0 : (t127 == 0) = false := beq_eq_false_iff_ne.mpr c54
                                    have c54b1 : (t127 != 0) = true := bne_iff_ne.mpr c54
                                    (first | rw [c54b0] | (simp only [i64_w, i32_w]; rw [c54b0]) | skip)
                                    have H' := Aside0.mk H
                                    clear H
                                    go_wp2
                                    go_meet
                                    case rel => exact ⟨_, (true), (by first | rfl | (simp; done) | (simp [*]; done)), H', ⟨by have := HK1.out; have := HJ18.out; have := HK3.out; first | omega | exact Nat.le_refl _⟩, ⟨by (with_reducible repeat (first | apply Kd.N_alloc | apply Kd.N_drewN | apply Kd.N_drew)); exact HO_3.out⟩, ⟨by (with_reducible repeat (first | apply Kd.N_alloc | apply Kd.N_drewN | apply Kd.N_drew)); exact HO129.out⟩, ⟨by repeat (first | (with_reducible first | exact HB.out | apply below_alloc | apply pw_below_drewN | apply below_drew1) | exact HB.out)⟩⟩
                                case rest =>
                                  clear HC52
                                  try clear c1
                                  try clear p1
                                  try clear q1
                                  try clear hx1
                                  try clear p2
                                  try clear c3
                                  try clear c4
                                  try clear c5
                                  try clear p6
                                  try clear c11
                                  try clear p11
                                  try clear q11
                                  try clear hx11
                                  try clear c12
                                  try clear p12
                                  try clear q12
                                  try clear hx12
                                  try clear c16
                                  try clear c17
                                  try clear c18
                                  try clear c32
                                  try clear c32b0
                                  try clear c33
                                  try clear c33b0
                                  try clear c34
                                  try clear c35
                                  try clear c36
                                  try clear c36b0
                                  try clear c38
                                  try clear c43
                                  try clear c43b0
                                  try clear c44
                                  try clear c44b0
                                  try clear c46
                                  try clear c46b0
                                  try clear c46b1
                                  try clear c47
                                  try clear c47b0
                                  try clear c47b1
                                  try clear c54
                                  try clear c54b0
                                  try clear c54b1
                                  try clear hx119_0
                                  try clear hx119_1
                                  try clear hx120_0
                                  try clear hx120_1
                                  try clear hx122_0
                                  try clear hx122_1
                                  try clear hx123_0
                                  try clear hx123_1
                                  try clear hx124_0
                                  try clear hx124_1
                                  try clear p119
                                  try clear p120
                                  try clear p122
                                  try clear p123
                                  try clear p124
                                  try clear q119
                                  try clear q120
                                  try clear q122
                                  try clear q123
                                  try clear q124
                                  obtain ⟨kq, x137_51, rfl, HA, HJ51, HO_3, HO_14, HB⟩ := hcut
                                  cases kq with
                                  | zero => exact absurd HA.out (by simp [freshetlaw03_ZsetWeights.j4])
                                  | succ kj51 =>
                                    have H := HA.out
                                    clear HA
                                    simp only [freshetlaw03_ZsetWeights.j4] at H
                                    by_cases c58 : x137_51 = true
                                    · subst c58
                                      have H1 : (some false) = some r := by rw [if_pos rfl] at H; exact H
                                      clear H
                                      have H := H1
                                      clear H1
                                      obtain rfl := Option.some.inj H
                                      go_wp2
                                      go_ret
                                      exact ⟨by first | rfl | (simp [errW_none, errW_some] <;> rfl) | (simp [*, errW_none, errW_some] <;> rfl), by repeat (first | (with_reducible first | exact HB.out | apply below_alloc | apply pw_below_drewN | apply below_drew1) | exact HB.out)⟩
                                    · replace c58 := Bool.eq_false_iff.mpr c58
                                      subst c58
                                      have H1 : (freshetlaw03_ZsetWeights.l3 kj51 t102 t126 0) = some r := by rw [if_neg (show ¬ (false = true) by decide)] at H; exact H
                                      clear H
                                      have H := H1
                                      clear H1
                                      have H' := Aside0.mk H
                                      clear H
                                      go_wp2
                                      go_loopg [15] kj51 (fun kq v15 w' => ∃ (x15_5 : Int), v15 = .int .i64 x15_5 ∧ Aside0 (freshetlaw03_ZsetWeights.l3 kq t102 t126 x15_5 = some r) ∧ Aside0 (kq ≤ kj51) ∧ Aside0 (Kd.N k35 35 w' w.heap.size (fun k_ => (P0_ k_ ∨ w.heap.size ≤ k_) ∧ some k_ ≠ (v128 : Value).ownBlock) (.slice Ao30 t102.length co30) t102) ∧ Aside0 (Kd.N k35 35 w' w.heap.size (fun k_ => (P0_ k_ ∨ w.heap.size ≤ k_) ∧ some k_ ≠ ((.slice Ao30 t102.length co30) : Value).ownBlock) v128 t126) ∧ Aside0 (Below w.heap.size w w'))
                                      case atStart => exact ⟨(0), (by first | rfl | (simp; done) | (simp [*]; done)), H', ⟨Nat.le_refl _⟩, ⟨by (with_reducible repeat (first | apply Kd.N_alloc | apply Kd.N_drewN | apply Kd.N_drew)); exact HO_3.out⟩, ⟨by (with_reducible repeat (first | apply Kd.N_alloc | apply Kd.N_drewN | apply Kd.N_drew)); exact HO_14.out⟩, ⟨by repeat (first | (with_reducible first | exact HB.out | apply below_alloc | apply pw_below_drewN | apply below_drew1) | exact HB.out)⟩⟩
                                      case round =>
                                        clear H'
                                        try clear c1
                                        try clear p1
                                        try clear q1
                                        try clear hx1
                                        try clear p2
                                        try clear c3
                                        try clear c4
                                        try clear c5
                                        try clear p6
                                        try clear c11
                                        try clear p11
                                        try clear q11
                                        try clear hx11
                                        try clear c12
                                        try clear p12
                                        try clear q12
                                        try clear hx12
                                        try clear c16
                                        try clear c17
                                        try clear c18
                                        try clear c32
                                        try clear c32b0
                                        try clear c33
                                        try clear c33b0
                                        try clear c34
                                        try clear c35
                                        try clear c36
                                        try clear c36b0
                                        try clear c38
                                        try clear c43
                                        try clear c43b0
                                        try clear c44
                                        try clear c44b0
                                        try clear c46
                                        try clear c46b0
                                        try clear c46b1
                                        try clear c47
                                        try clear c47b0
                                        try clear c47b1
                                        try clear c54
                                        try clear c54b0
                                        try clear c54b1
                                        try clear c58
                                        try clear hx119_0
                                        try clear hx119_1
                                        try clear hx120_0
                                        try clear hx120_1
                                        try clear hx122_0
                                        try clear hx122_1
                                        try clear hx123_0
                                        try clear hx123_1
                                        try clear hx124_0
                                        try clear hx124_1
                                        try clear p1
                                        try clear p11
                                        try clear p119
                                        try clear p12
                                        try clear p120
                                        try clear p122
                                        try clear p123
                                        try clear p124
                                        try clear p2
                                        try clear p6
                                        try clear q1
                                        try clear q11
                                        try clear q119
                                        try clear q12
                                        try clear q120
                                        try clear q122
                                        try clear q123
                                        try clear q124
                                        obtain ⟨x15_5, rfl, HA, HK5, HO_3, HO_14, HB⟩ := hrel
                                        cases gk with
                                        | zero => exact absurd HA.out (by simp [freshetlaw03_ZsetWeights.l3])
                                        | succ k5 =>
                                          have H := HA.out
                                          clear HA
                                          simp only [freshetlaw03_ZsetWeights.l3] at H
                                          by_cases c59 : x15_5 < (t102.length : Int)
                                          · rw [if_pos c59] at H
                                            have c59b0 : decide (x15_5 < (t102.length : Int)) = true := decide_eq_true c59
                                            clear c59
                                            by_cases c60 : 0 ≤ x15_5
                                            · rw [if_pos c60] at H
                                              have c60b0 : decide (0 ≤ x15_5) = true := decide_eq_true c60
                                              clear c60
                                              replace H := Option.bind_eq_some_iff.mp H
                                              obtain ⟨t132, A610, H⟩ := H
                                              replace H : (if ((t132 == 1) != (decide (((rd_T35 t102 x15_5).f1) > 0))) = true then (some false) else (if t132 > 1 then (some false) else (if t132 < 0 then (some false) else (freshetlaw03_ZsetWeights.l3 k5 t102 t126 (wrap64 (x15_5 + 1)))))) = some r := H
                                              have A61 := Aside0.mk A610
                                              clear A610
                                              by_cases c62 : ((t132 == 1) != (decide (((rd_T35 t102 x15_5).f1) > 0))) = true
                                              · rw [if_pos c62] at H
                                                have c62b0 : ((t132 == 1) != (decide (((rd_T35 t102 x15_5).f1) > 0))) = true := c62
                                                (try (have c62b1 : decide ((t132 == 1) = (decide (((rd_T35 t102 x15_5).f1) > 0))) = false := by simpa using c62))
                                                (try (have c62b2 : ((t132 == 1) == (decide (((rd_T35 t102 x15_5).f1) > 0))) = false := by simpa using c62))
                                                (try (have c62b3 : ¬ ((t132 == 1) = (decide (((rd_T35 t102 x15_5).f1) > 0))) := by simpa using c62))
                                                clear c62
                                                obtain rfl := Option.some.inj H
                                                have p131 : 0 ≤ (x15_5 : Int) := of_decide_eq_true (by first | (with_reducible assumption) | assumption)
                                                have q131 : x15_5 < (t102.length : Int) := of_decide_eq_true (by first | (with_reducible assumption) | assumption)
                                                obtain ⟨ad131, A131_0, c131_0, e131, hx131_0, hx131_1, hl131_0, hi131_0⟩ := at_T35 (Kd.N_reads' HO_3.out).2.2 x15_5 p131 q131
                                                cases e131
                                                obtain ⟨ce131, hce131, hMe131, hcc131⟩ := Kd.N_get HO_3.out z35 x15_5 p131 (by first | exact q131 | exact of_decide_eq_true (by first | (with_reducible assumption) | assumption) | (have e_ := (Kd.N_reads' HO_3.out).1; omega))
                                                obtain ⟨ua131_0, uc131_0, rfl, ul131_0, ge131_0⟩ := k35_openF hMe131
                                                have hv131_0 := hcc131 0 _ rfl
                                                rw [Nat.add_zero] at hv131_0
                                                replace hv131_0 := Option.some.inj (hv131_0.symm.trans hx131_0)
                                                injection hv131_0 with hva_ hvn_ hvc_
                                                rw [hva_] at ge131_0
                                                rw [hvc_] at ul131_0
                                                have HL131_0 := Aside0.mk (show Kd.V k56 56 _ w.heap.size _ _ ((rd_T35 t102 x15_5).f0) from Kd.V_mk ul131_0 ge131_0)
                                                clear hva_ hvn_ hvc_ ge131_0 ul131_0
                                                clear hcc131 hce131
                                                have HR131_0 := Aside0.mk hi131_0
                                                have HC131_0 := Aside0.mk hl131_0
                                                clear hi131_0 hl131_0
                                                replace p131 := eq_true p131
                                                replace q131 := eq_true q131
                                                obtain ⟨Ao63, co63, eo63⟩ := Kd.N_slice HO_14.out
                                                subst eo63
                                                go_wp2_with (first | ((with_reducible refine gate_callee (f := 17) rfl ?_); refine goesL_ (some 150) rfl rfl Tryd.func17 (by kernel_rfl) rfl #[.slice Ao63 t126.length co63, .slice A131_0 ((rd_T35 t102 x15_5).f0).length c131_0] rfl (by (try simp only [List.map_toArray, List.map_cons, List.map_nil]); first | done | rfl | (simp only [List.length_drop, List.length_take]; rfl)) ?_; (with_reducible refine (xWeight.calls _ _ t126 _ _ ((rd_T35 t102 x15_5).f0) t132 _ ?side1 ?side2 ?side3 ?side4 A61.out).mono ?_); (case side1 => repeat (first | exact (Kd.N_reads' HO_14.out).2.2 | (with_reducible refine Kd.C_alloc ?_ _) | (with_reducible refine Kd.C_drewN ?_ _) | (with_reducible refine Kd.C_drew ?_))); (case side2 => exact (Kd.N_reads' HO_14.out).2.1); (case side3 => repeat (first | exact (by repeat (first | (with_reducible exact HR131_0.out) | (with_reducible refine Kd.C_alloc ?_ _) | (with_reducible refine Kd.C_drewN ?_ _) | (with_reducible refine Kd.C_drew ?_) | exact HR131_0.out)) | (with_reducible refine Kd.C_alloc ?_ _) | (with_reducible refine Kd.C_drewN ?_ _) | (with_reducible refine Kd.C_drew ?_))); (case side4 => exact HC131_0.out); rintro e w64 ⟨rfl, hb⟩; refine ⟨_, rfl, ?_⟩; have n0_ := Aside0.mk (Kd.N_below (by (with_reducible repeat (first | apply Kd.N_alloc | apply Kd.N_drewN | apply Kd.N_drew)); exact HO_3.out) hb); have n1_ := Aside0.mk (Kd.N_below (by (with_reducible repeat (first | apply Kd.N_alloc | apply Kd.N_drewN | apply Kd.N_drew)); exact HO_14.out) hb); have n2_ := Aside0.mk (Kd.V_below (by (with_reducible repeat (first | apply Kd.V_alloc | apply Kd.V_drewN | apply Kd.V_drew)); exact HL131_0.out) hb); have n3_ := Aside0.mk (Kd.C_below (by repeat (first | (with_reducible exact HR131_0.out) | (with_reducible refine Kd.C_alloc ?_ _) | (with_reducible refine Kd.C_drewN ?_ _) | (with_reducible refine Kd.C_drew ?_) | exact HR131_0.out)) hb); have n4_ := Aside0.mk (below_step (by repeat (first | (with_reducible first | exact HB.out | apply below_alloc | apply pw_below_drewN | apply below_drew1) | exact HB.out)) hb); clear HO_3; clear HO_14; clear HL131_0; clear HR131_0; clear HB; have HO_3 := n0_; have HO_14 := n1_; have HL131_0 := n2_; have HR131_0 := n3_; have HB := n4_; clear n0_ n1_ n2_ n3_ n4_; (try clear hb); (try clear hb2); (try clear hk); (try clear hi); have p133 : 0 ≤ (x15_5 : Int) := of_decide_eq_true (by first | (with_reducible assumption) | assumption); have q133 : x15_5 < (t102.length : Int) := of_decide_eq_true (by first | (with_reducible assumption) | assumption); obtain ⟨ad133, A133_0, c133_0, e133, hx133_0, hx133_1, hl133_0, hi133_0⟩ := at_T35 (Kd.N_reads' HO_3.out).2.2 x15_5 p133 q133; obtain rfl : ad131 = ad133 := (by injection e133); obtain ⟨ce133, hce133, hMe133, hcc133⟩ := Kd.N_get HO_3.out z35 x15_5 p133 (by first | exact q133 | exact of_decide_eq_true (by first | (with_reducible assumption) | assumption) | (have e_ := (Kd.N_reads' HO_3.out).1; omega)); obtain ⟨ua133_0, uc133_0, rfl, ul133_0, ge133_0⟩ := k35_openF hMe133; have hv133_0 := hcc133 0 _ rfl; rw [Nat.add_zero] at hv133_0; replace hv133_0 := Option.some.inj (hv133_0.symm.trans hx133_0); injection hv133_0 with hva_ hvn_ hvc_; rw [hva_] at ge133_0; rw [hvc_] at ul133_0; have HL133_0 := Aside0.mk (show Kd.V k56 56 _ w.heap.size _ _ ((rd_T35 t102 x15_5).f0) from Kd.V_mk ul133_0 ge133_0); clear hva_ hvn_ hvc_ ge133_0 ul133_0; clear hcc133 hce133; have HR133_0 := Aside0.mk hi133_0; have HC133_0 := Aside0.mk hl133_0; clear hi133_0 hl133_0; replace p133 := eq_true p133; replace q133 := eq_true q133))
                                                go_ret
                                                exact ⟨by first | rfl | (simp [errW_none, errW_some] <;> rfl) | (simp [*, errW_none, errW_some] <;> rfl), by repeat (first | (with_reducible first | exact HB.out | apply below_alloc | apply pw_below_drewN | apply below_drew1) | exact HB.out)⟩
                                              · rw [if_neg c62] at H
                                                have c62b0 : ((t132 == 1) != (decide (((rd_T35 t102 x15_5).f1) > 0))) = false := by simpa using c62
                                                (try (have c62b1 : decide ((t132 == 1) = (decide (((rd_T35 t102 x15_5).f1) > 0))) = true := by simpa using c62))
                                                (try (have c62b2 : ((t132 == 1) == (decide (((rd_T35 t102 x15_5).f1) > 0))) = true := by simpa using c62))
                                                clear c62
                                                by_cases c65 : t132 > 1
                                                · rw [if_pos c65] at H
                                                  have c65b0 : decide (1 < t132) = true := decide_eq_true c65
                                                  clear c65
                                                  obtain rfl := Option.some.inj H
                                                  have p131 : 0 ≤ (x15_5 : Int) := of_decide_eq_true (by first | (with_reducible assumption) | assumption)
                                                  have q131 : x15_5 < (t102.length : Int) := of_decide_eq_true (by first | (with_reducible assumption) | assumption)
                                                  obtain ⟨ad131, A131_0, c131_0, e131, hx131_0, hx131_1, hl131_0, hi131_0⟩ := at_T35 (Kd.N_reads' HO_3.out).2.2 x15_5 p131 q131
                                                  cases e131
                                                  obtain ⟨ce131, hce131, hMe131, hcc131⟩ := Kd.N_get HO_3.out z35 x15_5 p131 (by first | exact q131 | exact of_decide_eq_true (by first | (with_reducible assumption) | assumption) | (have e_ := (Kd.N_reads' HO_3.out).1; omega))
                                                  obtain ⟨ua131_0, uc131_0, rfl, ul131_0, ge131_0⟩ := k35_openF hMe131
                                                  have hv131_0 := hcc131 0 _ rfl
                                                  rw [Nat.add_zero] at hv131_0
                                                  replace hv131_0 := Option.some.inj (hv131_0.symm.trans hx131_0)
                                                  injection hv131_0 with hva_ hvn_ hvc_
                                                  rw [hva_] at ge131_0
                                                  rw [hvc_] at ul131_0
                                                  have HL131_0 := Aside0.mk (show Kd.V k56 56 _ w.heap.size _ _ ((rd_T35 t102 x15_5).f0) from Kd.V_mk ul131_0 ge131_0)
                                                  clear hva_ hvn_ hvc_ ge131_0 ul131_0
                                                  clear hcc131 hce131
                                                  have HR131_0 := Aside0.mk hi131_0
                                                  have HC131_0 := Aside0.mk hl131_0
                                                  clear hi131_0 hl131_0
                                                  replace p131 := eq_true p131
                                                  replace q131 := eq_true q131
                                                  obtain ⟨Ao66, co66, eo66⟩ := Kd.N_slice HO_14.out
                                                  subst eo66
                                                  go_wp2_with (first | ((with_reducible refine gate_callee (f := 17) rfl ?_); refine goesL_ (some 150) rfl rfl Tryd.func17 (by kernel_rfl) rfl #[.slice Ao66 t126.length co66, .slice A131_0 ((rd_T35 t102 x15_5).f0).length c131_0] rfl (by (try simp only [List.map_toArray, List.map_cons, List.map_nil]); first | done | rfl | (simp only [List.length_drop, List.length_take]; rfl)) ?_; (with_reducible refine (xWeight.calls _ _ t126 _ _ ((rd_T35 t102 x15_5).f0) t132 _ ?side1 ?side2 ?side3 ?side4 A61.out).mono ?_); (case side1 => repeat (first | exact (Kd.N_reads' HO_14.out).2.2 | (with_reducible refine Kd.C_alloc ?_ _) | (with_reducible refine Kd.C_drewN ?_ _) | (with_reducible refine Kd.C_drew ?_))); (case side2 => exact (Kd.N_reads' HO_14.out).2.1); (case side3 => repeat (first | exact (by repeat (first | (with_reducible exact HR131_0.out) | (with_reducible refine Kd.C_alloc ?_ _) | (with_reducible refine Kd.C_drewN ?_ _) | (with_reducible refine Kd.C_drew ?_) | exact HR131_0.out)) | (with_reducible refine Kd.C_alloc ?_ _) | (with_reducible refine Kd.C_drewN ?_ _) | (with_reducible refine Kd.C_drew ?_))); (case side4 => exact HC131_0.out); rintro e w67 ⟨rfl, hb⟩; refine ⟨_, rfl, ?_⟩; have n0_ := Aside0.mk (Kd.N_below (by (with_reducible repeat (first | apply Kd.N_alloc | apply Kd.N_drewN | apply Kd.N_drew)); exact HO_3.out) hb); have n1_ := Aside0.mk (Kd.N_below (by (with_reducible repeat (first | apply Kd.N_alloc | apply Kd.N_drewN | apply Kd.N_drew)); exact HO_14.out) hb); have n2_ := Aside0.mk (Kd.V_below (by (with_reducible repeat (first | apply Kd.V_alloc | apply Kd.V_drewN | apply Kd.V_drew)); exact HL131_0.out) hb); have n3_ := Aside0.mk (Kd.C_below (by repeat (first | (with_reducible exact HR131_0.out) | (with_reducible refine Kd.C_alloc ?_ _) | (with_reducible refine Kd.C_drewN ?_ _) | (with_reducible refine Kd.C_drew ?_) | exact HR131_0.out)) hb); have n4_ := Aside0.mk (below_step (by repeat (first | (with_reducible first | exact HB.out | apply below_alloc | apply pw_below_drewN | apply below_drew1) | exact HB.out)) hb); clear HO_3; clear HO_14; clear HL131_0; clear HR131_0; clear HB; have HO_3 := n0_; have HO_14 := n1_; have HL131_0 := n2_; have HR131_0 := n3_; have HB := n4_; clear n0_ n1_ n2_ n3_ n4_; (try clear hb); (try clear hb2); (try clear hk); (try clear hi); have p133 : 0 ≤ (x15_5 : Int) := of_decide_eq_true (by first | (with_reducible assumption) | assumption); have q133 : x15_5 < (t102.length : Int) := of_decide_eq_true (by first | (with_reducible assumption) | assumption); obtain ⟨ad133, A133_0, c133_0, e133, hx133_0, hx133_1, hl133_0, hi133_0⟩ := at_T35 (Kd.N_reads' HO_3.out).2.2 x15_5 p133 q133; obtain rfl : ad131 = ad133 := (by injection e133); obtain ⟨ce133, hce133, hMe133, hcc133⟩ := Kd.N_get HO_3.out z35 x15_5 p133 (by first | exact q133 | exact of_decide_eq_true (by first | (with_reducible assumption) | assumption) | (have e_ := (Kd.N_reads' HO_3.out).1; omega)); obtain ⟨ua133_0, uc133_0, rfl, ul133_0, ge133_0⟩ := k35_openF hMe133; have hv133_0 := hcc133 0 _ rfl; rw [Nat.add_zero] at hv133_0; replace hv133_0 := Option.some.inj (hv133_0.symm.trans hx133_0); injection hv133_0 with hva_ hvn_ hvc_; rw [hva_] at ge133_0; rw [hvc_] at ul133_0; have HL133_0 := Aside0.mk (show Kd.V k56 56 _ w.heap.size _ _ ((rd_T35 t102 x15_5).f0) from Kd.V_mk ul133_0 ge133_0); clear hva_ hvn_ hvc_ ge133_0 ul133_0; clear hcc133 hce133; have HR133_0 := Aside0.mk hi133_0; have HC133_0 := Aside0.mk hl133_0; clear hi133_0 hl133_0; replace p133 := eq_true p133; replace q133 := eq_true q133))
                                                  go_ret
                                                  exact ⟨by first | rfl | (simp [errW_none, errW_some] <;> rfl) | (simp [*, errW_none, errW_some] <;> rfl), by repeat (first | (with_reducible first | exact HB.out | apply below_alloc | apply pw_below_drewN | apply below_drew1) | exact HB.out)⟩
                                                · rw [if_neg c65] at H
                                                  have c65b0 : decide (1 < t132) = false := decide_eq_false c65
                                                  clear c65
                                                  by_cases c68 : t132 < 0
                                                  · rw [if_pos c68] at H
                                                    have c68b0 : decide (t132 < 0) = true := decide_eq_true c68
                                                    clear c68
                                                    obtain rfl := Option.some.inj H
                                                    have p131 : 0 ≤ (x15_5 : Int) := of_decide_eq_true (by first | (with_reducible assumption) | assumption)
                                                    have q131 : x15_5 < (t102.length : Int) := of_decide_eq_true (by first | (with_reducible assumption) | assumption)
                                                    obtain ⟨ad131, A131_0, c131_0, e131, hx131_0, hx131_1, hl131_0, hi131_0⟩ := at_T35 (Kd.N_reads' HO_3.out).2.2 x15_5 p131 q131
                                                    cases e131
                                                    obtain ⟨ce131, hce131, hMe131, hcc131⟩ := Kd.N_get HO_3.out z35 x15_5 p131 (by first | exact q131 | exact of_decide_eq_true (by first | (with_reducible assumption) | assumption) | (have e_ := (Kd.N_reads' HO_3.out).1; omega))
                                                    obtain ⟨ua131_0, uc131_0, rfl, ul131_0, ge131_0⟩ := k35_openF hMe131
                                                    have hv131_0 := hcc131 0 _ rfl
                                                    rw [Nat.add_zero] at hv131_0
                                                    replace hv131_0 := Option.some.inj (hv131_0.symm.trans hx131_0)
                                                    injection hv131_0 with hva_ hvn_ hvc_
                                                    rw [hva_] at ge131_0
                                                    rw [hvc_] at ul131_0
                                                    have HL131_0 := Aside0.mk (show Kd.V k56 56 _ w.heap.size _ _ ((rd_T35 t102 x15_5).f0) from Kd.V_mk ul131_0 ge131_0)
                                                    clear hva_ hvn_ hvc_ ge131_0 ul131_0
                                                    clear hcc131 hce131
                                                    have HR131_0 := Aside0.mk hi131_0
                                                    have HC131_0 := Aside0.mk hl131_0
                                                    clear hi131_0 hl131_0
                                                    replace p131 := eq_true p131
                                                    replace q131 := eq_true q131
                                                    obtain ⟨Ao69, co69, eo69⟩ := Kd.N_slice HO_14.out
                                                    subst eo69
                                                    go_wp2_with (first | ((with_reducible refine gate_callee (f := 17) rfl ?_); refine goesL_ (some 150) rfl rfl Tryd.func17 (by kernel_rfl) rfl #[.slice Ao69 t126.length co69, .slice A131_0 ((rd_T35 t102 x15_5).f0).length c131_0] rfl (by (try simp only [List.map_toArray, List.map_cons, List.map_nil]); first | done | rfl | (simp only [List.length_drop, List.length_take]; rfl)) ?_; (with_reducible refine (xWeight.calls _ _ t126 _ _ ((rd_T35 t102 x15_5).f0) t132 _ ?side1 ?side2 ?side3 ?side4 A61.out).mono ?_); (case side1 => repeat (first | exact (Kd.N_reads' HO_14.out).2.2 | (with_reducible refine Kd.C_alloc ?_ _) | (with_reducible refine Kd.C_drewN ?_ _) | (with_reducible refine Kd.C_drew ?_))); (case side2 => exact (Kd.N_reads' HO_14.out).2.1); (case side3 => repeat (first | exact (by repeat (first | (with_reducible exact HR131_0.out) | (with_reducible refine Kd.C_alloc ?_ _) | (with_reducible refine Kd.C_drewN ?_ _) | (with_reducible refine Kd.C_drew ?_) | exact HR131_0.out)) | (with_reducible refine Kd.C_alloc ?_ _) | (with_reducible refine Kd.C_drewN ?_ _) | (with_reducible refine Kd.C_drew ?_))); (case side4 => exact HC131_0.out); rintro e w70 ⟨rfl, hb⟩; refine ⟨_, rfl, ?_⟩; have n0_ := Aside0.mk (Kd.N_below (by (with_reducible repeat (first | apply Kd.N_alloc | apply Kd.N_drewN | apply Kd.N_drew)); exact HO_3.out) hb); have n1_ := Aside0.mk (Kd.N_below (by (with_reducible repeat (first | apply Kd.N_alloc | apply Kd.N_drewN | apply Kd.N_drew)); exact HO_14.out) hb); have n2_ := Aside0.mk (Kd.V_below (by (with_reducible repeat (first | apply Kd.V_alloc | apply Kd.V_drewN | apply Kd.V_drew)); exact HL131_0.out) hb); have n3_ := Aside0.mk (Kd.C_below (by repeat (first | (with_reducible exact HR131_0.out) | (with_reducible refine Kd.C_alloc ?_ _) | (with_reducible refine Kd.C_drewN ?_ _) | (with_reducible refine Kd.C_drew ?_) | exact HR131_0.out)) hb); have n4_ := Aside0.mk (below_step (by repeat (first | (with_reducible first | exact HB.out | apply below_alloc | apply pw_below_drewN | apply below_drew1) | exact HB.out)) hb); clear HO_3; clear HO_14; clear HL131_0; clear HR131_0; clear HB; have HO_3 := n0_; have HO_14 := n1_; have HL131_0 := n2_; have HR131_0 := n3_; have HB := n4_; clear n0_ n1_ n2_ n3_ n4_; (try clear hb); (try clear hb2); (try clear hk); (try clear hi); have p133 : 0 ≤ (x15_5 : Int) := of_decide_eq_true (by first | (with_reducible assumption) | assumption); have q133 : x15_5 < (t102.length : Int) := of_decide_eq_true (by first | (with_reducible assumption) | assumption); obtain ⟨ad133, A133_0, c133_0, e133, hx133_0, hx133_1, hl133_0, hi133_0⟩ := at_T35 (Kd.N_reads' HO_3.out).2.2 x15_5 p133 q133; obtain rfl : ad131 = ad133 := (by injection e133); obtain ⟨ce133, hce133, hMe133, hcc133⟩ := Kd.N_get HO_3.out z35 x15_5 p133 (by first | exact q133 | exact of_decide_eq_true (by first | (with_reducible assumption) | assumption) | (have e_ := (Kd.N_reads' HO_3.out).1; omega)); obtain ⟨ua133_0, uc133_0, rfl, ul133_0, ge133_0⟩ := k35_openF hMe133; have hv133_0 := hcc133 0 _ rfl; rw [Nat.add_zero] at hv133_0; replace hv133_0 := Option.some.inj (hv133_0.symm.trans hx133_0); injection hv133_0 with hva_ hvn_ hvc_; rw [hva_] at ge133_0; rw [hvc_] at ul133_0; have HL133_0 := Aside0.mk (show Kd.V k56 56 _ w.heap.size _ _ ((rd_T35 t102 x15_5).f0) from Kd.V_mk ul133_0 ge133_0); clear hva_ hvn_ hvc_ ge133_0 ul133_0; clear hcc133 hce133; have HR133_0 := Aside0.mk hi133_0; have HC133_0 := Aside0.mk hl133_0; clear hi133_0 hl133_0; replace p133 := eq_true p133; replace q133 := eq_true q133))
                                                    go_ret
                                                    exact ⟨by first | rfl | (simp [errW_none, errW_some] <;> rfl) | (simp [*, errW_none, errW_some] <;> rfl), by repeat (first | (with_reducible first | exact HB.out | apply below_alloc | apply pw_below_drewN | apply below_drew1) | exact HB.out)⟩
                                                  · rw [if_neg c68] at H
                                                    have c68b0 : decide (t132 < 0) = false := decide_eq_false c68
                                                    clear c68
                                                    have H' := Aside0.mk H
                                                    clear H
                                                    have p131 : 0 ≤ (x15_5 : Int) := of_decide_eq_true (by first | (with_reducible assumption) | assumption)
                                                    have q131 : x15_5 < (t102.length : Int) := of_decide_eq_true (by first | (with_reducible assumption) | assumption)
                                                    obtain ⟨ad131, A131_0, c131_0, e131, hx131_0, hx131_1, hl131_0, hi131_0⟩ := at_T35 (Kd.N_reads' HO_3.out).2.2 x15_5 p131 q131
                                                    cases e131
                                                    obtain ⟨ce131, hce131, hMe131, hcc131⟩ := Kd.N_get HO_3.out z35 x15_5 p131 (by first | exact q131 | exact of_decide_eq_true (by first | (with_reducible assumption) | assumption) | (have e_ := (Kd.N_reads' HO_3.out).1; omega))
                                                    obtain ⟨ua131_0, uc131_0, rfl, ul131_0, ge131_0⟩ := k35_openF hMe131
                                                    have hv131_0 := hcc131 0 _ rfl
                                                    rw [Nat.add_zero] at hv131_0
                                                    replace hv131_0 := Option.some.inj (hv131_0.symm.trans hx131_0)
                                                    injection hv131_0 with hva_ hvn_ hvc_
                                                    rw [hva_] at ge131_0
                                                    rw [hvc_] at ul131_0
                                                    have HL131_0 := Aside0.mk (show Kd.V k56 56 _ w.heap.size _ _ ((rd_T35 t102 x15_5).f0) from Kd.V_mk ul131_0 ge131_0)
                                                    clear hva_ hvn_ hvc_ ge131_0 ul131_0
                                                    clear hcc131 hce131
                                                    have HR131_0 := Aside0.mk hi131_0
                                                    have HC131_0 := Aside0.mk hl131_0
                                                    clear hi131_0 hl131_0
                                                    replace p131 := eq_true p131
                                                    replace q131 := eq_true q131
                                                    obtain ⟨Ao71, co71, eo71⟩ := Kd.N_slice HO_14.out
                                                    subst eo71
                                                    go_wp2_with (first | ((with_reducible refine gate_callee (f := 17) rfl ?_); refine goesL_ (some 150) rfl rfl Tryd.func17 (by kernel_rfl) rfl #[.slice Ao71 t126.length co71, .slice A131_0 ((rd_T35 t102 x15_5).f0).length c131_0] rfl (by (try simp only [List.map_toArray, List.map_cons, List.map_nil]); first | done | rfl | (simp only [List.length_drop, List.length_take]; rfl)) ?_; (with_reducible refine (xWeight.calls _ _ t126 _ _ ((rd_T35 t102 x15_5).f0) t132 _ ?side1 ?side2 ?side3 ?side4 A61.out).mono ?_); (case side1 => repeat (first | exact (Kd.N_reads' HO_14.out).2.2 | (with_reducible refine Kd.C_alloc ?_ _) | (with_reducible refine Kd.C_drewN ?_ _) | (with_reducible refine Kd.C_drew ?_))); (case side2 => exact (Kd.N_reads' HO_14.out).2.1); (case side3 => repeat (first | exact (by repeat (first | (with_reducible exact HR131_0.out) | (with_reducible refine Kd.C_alloc ?_ _) | (with_reducible refine Kd.C_drewN ?_ _) | (with_reducible refine Kd.C_drew ?_) | exact HR131_0.out)) | (with_reducible refine Kd.C_alloc ?_ _) | (with_reducible refine Kd.C_drewN ?_ _) | (with_reducible refine Kd.C_drew ?_))); (case side4 => exact HC131_0.out); rintro e w72 ⟨rfl, hb⟩; refine ⟨_, rfl, ?_⟩; have n0_ := Aside0.mk (Kd.N_below (by (with_reducible repeat (first | apply Kd.N_alloc | apply Kd.N_drewN | apply Kd.N_drew)); exact HO_3.out) hb); have n1_ := Aside0.mk (Kd.N_below (by (with_reducible repeat (first | apply Kd.N_alloc | apply Kd.N_drewN | apply Kd.N_drew)); exact HO_14.out) hb); have n2_ := Aside0.mk (Kd.V_below (by (with_reducible repeat (first | apply Kd.V_alloc | apply Kd.V_drewN | apply Kd.V_drew)); exact HL131_0.out) hb); have n3_ := Aside0.mk (Kd.C_below (by repeat (first | (with_reducible exact HR131_0.out) | (with_reducible refine Kd.C_alloc ?_ _) | (with_reducible refine Kd.C_drewN ?_ _) | (with_reducible refine Kd.C_drew ?_) | exact HR131_0.out)) hb); have n4_ := Aside0.mk (below_step (by repeat (first | (with_reducible first | exact HB.out | apply below_alloc | apply pw_below_drewN | apply below_drew1) | exact HB.out)) hb); clear HO_3; clear HO_14; clear HL131_0; clear HR131_0; clear HB; have HO_3 := n0_; have HO_14 := n1_; have HL131_0 := n2_; have HR131_0 := n3_; have HB := n4_; clear n0_ n1_ n2_ n3_ n4_; (try clear hb); (try clear hb2); (try clear hk); (try clear hi); have p133 : 0 ≤ (x15_5 : Int) := of_decide_eq_true (by first | (with_reducible assumption) | assumption); have q133 : x15_5 < (t102.length : Int) := of_decide_eq_true (by first | (with_reducible assumption) | assumption); obtain ⟨ad133, A133_0, c133_0, e133, hx133_0, hx133_1, hl133_0, hi133_0⟩ := at_T35 (Kd.N_reads' HO_3.out).2.2 x15_5 p133 q133; obtain rfl : ad131 = ad133 := (by injection e133); obtain ⟨ce133, hce133, hMe133, hcc133⟩ := Kd.N_get HO_3.out z35 x15_5 p133 (by first | exact q133 | exact of_decide_eq_true (by first | (with_reducible assumption) | assumption) | (have e_ := (Kd.N_reads' HO_3.out).1; omega)); obtain ⟨ua133_0, uc133_0, rfl, ul133_0, ge133_0⟩ := k35_openF hMe133; have hv133_0 := hcc133 0 _ rfl; rw [Nat.add_zero] at hv133_0; replace hv133_0 := Option.some.inj (hv133_0.symm.trans hx133_0); injection hv133_0 with hva_ hvn_ hvc_; rw [hva_] at ge133_0; rw [hvc_] at ul133_0; have HL133_0 := Aside0.mk (show Kd.V k56 56 _ w.heap.size _ _ ((rd_T35 t102 x15_5).f0) from Kd.V_mk ul133_0 ge133_0); clear hva_ hvn_ hvc_ ge133_0 ul133_0; clear hcc133 hce133; have HR133_0 := Aside0.mk hi133_0; have HC133_0 := Aside0.mk hl133_0; clear hi133_0 hl133_0; replace p133 := eq_true p133; replace q133 := eq_true q133))
                                                    go_roundg k5
                                                    case measure => have := HK1.out; have := HJ18.out; have := HK3.out; have := HJ51.out; have := HK5.out; omega
                                                    case rel => exact ⟨(wrap64 (x15_5 + 1)), (by first | rfl | (simp; done) | (simp [*]; done)), H', ⟨by have := HK1.out; have := HJ18.out; have := HK3.out; have := HJ51.out; have := HK5.out; omega⟩, ⟨by (with_reducible repeat (first | apply Kd.N_alloc | apply Kd.N_drewN | apply Kd.N_drew)); exact HO_3.out⟩, ⟨by (with_reducible repeat (first | apply Kd.N_alloc | apply Kd.N_drewN | apply Kd.N_drew)); exact HO_14.out⟩, ⟨by repeat (first | (with_reducible first | exact HB.out | apply below_alloc | apply pw_below_drewN | apply below_drew1) | exact HB.out)⟩⟩
                                            · rw [if_neg c60] at H
                                              exact absurd H (by simp)
                                          · rw [if_neg c59] at H
                                            have c59b0 : decide (x15_5 < (t102.length : Int)) = false := decide_eq_false c59
                                            clear c59
                                            obtain rfl := Option.some.inj H
                                            obtain ⟨Ao73, co73, eo73⟩ := Kd.N_slice HO_14.out
                                            subst eo73
                                            go_wp2
                                            go_ret
                                            exact ⟨by first | rfl | (simp [errW_none, errW_some] <;> rfl) | (simp [*, errW_none, errW_some] <;> rfl), by repeat (first | (with_reducible first | exact HB.out | apply below_alloc | apply pw_below_drewN | apply below_drew1) | exact HB.out)⟩
                        · replace c29 := Bool.eq_false_iff.mpr c29
                          subst c29
                          have H1 : (some false) = some r := by rw [if_neg (show ¬ (false = true) by decide)] at H; exact H
                          clear H
                          have H := H1
                          clear H1
                          obtain rfl := Option.some.inj H
                          obtain ⟨Ao74, co74, eo74⟩ := Kd.N_slice HO_3.out
                          subst eo74
                          go_wp2_with (first | ((with_reducible refine gate_callee (f := 11) rfl ?_); refine goesL_ (some 64) rfl rfl Tryd.func11 (by kernel_rfl) rfl #[.slice Ao74 t102.length co74] rfl (by (try simp only [List.map_toArray, List.map_cons, List.map_nil]); first | done | rfl | (simp only [List.length_drop, List.length_take]; rfl)) ?_; (with_reducible refine (xZSound.calls _ _ t102 false _ ?side1 ?side2 A28.out).mono ?_); (case side1 => repeat (first | exact (Kd.N_reads' HO_3.out).2.2 | (with_reducible refine Kd.C_alloc ?_ _) | (with_reducible refine Kd.C_drewN ?_ _) | (with_reducible refine Kd.C_drew ?_))); (case side2 => exact (Kd.N_reads' HO_3.out).2.1); rintro e w75 ⟨rfl, hb⟩; refine ⟨_, rfl, ?_⟩; have n0_ := Aside0.mk (Kd.V_below (by (with_reducible repeat (first | apply Kd.V_alloc | apply Kd.V_drewN | apply Kd.V_drew)); exact HO_0.out) hb); have n1_ := Aside0.mk (Kd.N_below (by (with_reducible repeat (first | apply Kd.N_alloc | apply Kd.N_drewN | apply Kd.N_drew)); exact HO_3.out) hb); have n2_ := Aside0.mk (below_step (by repeat (first | (with_reducible first | exact HB.out | apply below_alloc | apply pw_below_drewN | apply below_drew1) | exact HB.out)) hb); clear HO_0; clear HO_3; clear HB; have HO_0 := n0_; have HO_3 := n1_; have HB := n2_; clear n0_ n1_ n2_; (try clear hb); (try clear hb2); (try clear hk); (try clear hi)))
                          go_ret
                          exact ⟨by first | rfl | (simp [errW_none, errW_some] <;> rfl) | (simp [*, errW_none, errW_some] <;> rfl), by repeat (first | (with_reducible first | exact HB.out | apply below_alloc | apply pw_below_drewN | apply below_drew1) | exact HB.out)⟩
                      · rw [if_neg c27] at H
                        have c27b0 : (t103 == 0) = false := beq_eq_false_iff_ne.mpr c27
                        have c27b1 : (t103 != 0) = true := bne_iff_ne.mpr c27
                        obtain rfl := Option.some.inj H
                        obtain ⟨Ao76, co76, eo76⟩ := Kd.N_slice HO_3.out
                        subst eo76
                        go_wp2
                        go_ret
                        exact ⟨by first | rfl | (simp [errW_none, errW_some] <;> rfl) | (simp [*, errW_none, errW_some] <;> rfl), by repeat (first | (with_reducible first | exact HB.out | apply below_alloc | apply pw_below_drewN | apply below_drew1) | exact HB.out)⟩
        · rw [if_neg c8] at H
          exact absurd H (by simp)
      · rw [if_neg c7] at H
        exact absurd H (by simp)
  · replace c3 := Bool.eq_false_iff.mpr c3
    subst c3
    have H1 : (some false) = some r := by rw [if_neg (show ¬ (false = true) by decide)] at H; exact H
    clear H
    have H := H1
    clear H1
    obtain rfl := Option.some.inj H
    go_enter Tryd.func4, Tryd.ntmps4
    go_wp2_with (first | ((with_reducible refine gate_callee (f := 10) rfl ?_); refine goesL_ (some 17) rfl rfl Tryd.func10 (by kernel_rfl) rfl #[] rfl (by (try simp only [List.map_toArray, List.map_cons, List.map_nil]); first | done | rfl | (simp only [List.length_drop, List.length_take]; rfl)) ?_; (with_reducible refine (xAwake3.calls  false _ ?side1 A2.out).mono ?_); (case side1 => first | exact HT.out | exact tab_at HT.out (by repeat (first | (with_reducible first | exact HB.out | apply below_alloc | apply pw_below_drewN | apply below_drew1) | exact HB.out)) | (repeat (first | exact HT.out | refine tab_drewN ?_ | refine tab_drew ?_))); rintro e w77 ⟨rfl, hb⟩; refine ⟨_, rfl, ?_⟩; have n0_ := Aside0.mk (Kd.V_below (by (with_reducible repeat (first | apply Kd.V_alloc | apply Kd.V_drewN | apply Kd.V_drew)); exact HO0.out) hb); have n1_ := Aside0.mk (below_step (by repeat (first | (with_reducible first | exact HB.out | apply below_alloc | apply pw_below_drewN | apply below_drew1) | exact HB.out)) hb); clear HO0; clear HB; have HO0 := n0_; have HB := n1_; clear n0_ n1_; (try clear hb); (try clear hb2); (try clear hk); (try clear hi)))
    go_ret
    exact ⟨by first | rfl | (simp [errW_none, errW_some] <;> rfl) | (simp [*, errW_none, errW_some] <;> rfl), by repeat (first | (with_reducible first | exact HB.out | apply below_alloc | apply pw_below_drewN | apply below_drew1) | exact HB.out)⟩
end Go.Proofs.YthpkjkcfhipjhaaDoor.PZLW
end
