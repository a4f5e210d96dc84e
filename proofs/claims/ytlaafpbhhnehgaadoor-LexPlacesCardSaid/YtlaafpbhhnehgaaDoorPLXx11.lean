/- Walks of functions of this translation, written by a program (wip/tools/xprint.py, out of the kit's print). -/
import Derived.Test.YtlaafpbhhnehgaaDoorPLXx0
import Derived.Test.YtlaafpbhhnehgaaDoorPLXx1
import Derived.Test.YtlaafpbhhnehgaaDoorPLXx2
import Derived.Test.YtlaafpbhhnehgaaDoorXL
namespace Go.Proofs.YtlaafpbhhnehgaaDoor.PLX
open Go.RowKit Go.Proofs.YtlaafpbhhnehgaaDoorW.PrintWords Go.Proofs.YtlaafpbhhnehgaaDoorW.PrintLast
set_option linter.unusedVariables false
set_option linter.unusedSimpArgs false

attribute [local go_sem high] eqA34
/-! ### freshetlaw13_LexPlaces: function 8 -/
mutual
def freshetlaw13_LexPlaces.j0 : Nat → ByteArray → List (S34) → Bool → Option (Bool)
  | 0, _, _, _ => none
  | k + 1, x0, x3, x41 => if x41 = true then (some false) else (freshetlaw13_LexPlaces.l0 k x0 x3 0)
def freshetlaw13_LexPlaces.l0 : Nat → ByteArray → List (S34) → Int → Option (Bool)
  | 0, _, _, _ => none
  | k + 1, x0, x3, x6 => if x6 < (wrap64 ((x3.length : Int) - 1)) then (if 0 ≤ x6 then (if x6 < (x3.length : Int) then (if ((rd_T34 x3 x6).f0) < 1 then (freshetlaw13_LexPlaces.j2 k x0 x3 x6 true ((rd_T34 x3 x6).f0) ((rd_T34 x3 x6).f1) ((rd_T34 x3 x6).f2)) else (if ((rd_T34 x3 x6).f0) > 6 then (freshetlaw13_LexPlaces.j2 k x0 x3 x6 true ((rd_T34 x3 x6).f0) ((rd_T34 x3 x6).f1) ((rd_T34 x3 x6).f2)) else (if ((rd_T34 x3 x6).f2) < 0 then (freshetlaw13_LexPlaces.j2 k x0 x3 x6 true ((rd_T34 x3 x6).f0) ((rd_T34 x3 x6).f1) ((rd_T34 x3 x6).f2)) else (if 0 ≤ (wrap64 (x6 + 1)) then (if (wrap64 (x6 + 1)) < (x3.length : Int) then (if ((rd_T34 x3 x6).f2) ≥ ((rd_T34 x3 (wrap64 (x6 + 1))).f2) then (freshetlaw13_LexPlaces.j2 k x0 x3 x6 true ((rd_T34 x3 x6).f0) ((rd_T34 x3 x6).f1) ((rd_T34 x3 x6).f2)) else (if ((rd_T34 x3 x6).f1).toList = ([] : List UInt8) then (freshetlaw13_LexPlaces.j2 k x0 x3 x6 (((rd_T34 x3 x6).f0) != 5) ((rd_T34 x3 x6).f0) ((rd_T34 x3 x6).f1) ((rd_T34 x3 x6).f2)) else (freshetlaw13_LexPlaces.j2 k x0 x3 x6 false ((rd_T34 x3 x6).f0) ((rd_T34 x3 x6).f1) ((rd_T34 x3 x6).f2)))) else (none)) else (none))))) else (none)) else (none)) else (some true)
def freshetlaw13_LexPlaces.j2 : Nat → ByteArray → List (S34) → Int → Bool → Int → ByteArray → Int → Option (Bool)
  | 0, _, _, _, _, _, _, _ => none
  | k + 1, x0, x3, x6, x86, x300000, x300001, x300002 => if x86 = true then (some false) else (if x300000 = 6 then (if (wrap64 (x300002 + (x300001.size : Int))) > (x0.size : Int) then (freshetlaw13_LexPlaces.j3 k x0 x3 x6 true x300000 x300001 x300002) else (if 0 ≤ x300002 then (if x300002 ≤ (wrap64 (x300002 + (x300001.size : Int))) then (if (wrap64 (x300002 + (x300001.size : Int))) ≤ (x0.size : Int) then (freshetlaw13_LexPlaces.j3 k x0 x3 x6 ((x0.extract (x300002 : Int).toNat ((wrap64 (x300002 + (x300001.size : Int))) : Int).toNat).toList != x300001.toList) x300000 x300001 x300002) else (none)) else (none)) else (none))) else (if x300000 = 4 then (if (wrap64 (x300002 + (x300001.size : Int))) > (x0.size : Int) then (freshetlaw13_LexPlaces.j3 k x0 x3 x6 true x300000 x300001 x300002) else (if 0 ≤ x300002 then (if x300002 ≤ (wrap64 (x300002 + (x300001.size : Int))) then (if (wrap64 (x300002 + (x300001.size : Int))) ≤ (x0.size : Int) then (freshetlaw13_LexPlaces.j3 k x0 x3 x6 ((x0.extract (x300002 : Int).toNat ((wrap64 (x300002 + (x300001.size : Int))) : Int).toNat).toList != x300001.toList) x300000 x300001 x300002) else (none)) else (none)) else (none))) else (freshetlaw13_LexPlaces.j3 k x0 x3 x6 false x300000 x300001 x300002)))
def freshetlaw13_LexPlaces.j3 : Nat → ByteArray → List (S34) → Int → Bool → Int → ByteArray → Int → Option (Bool)
  | 0, _, _, _, _, _, _, _ => none
  | k + 1, x0, x3, x6, x119, x300000, x300001, x300002 => if x119 = true then (some false) else (if x300000 = 2 then ((xIsWord.f x300001).bind fun t301 => (if t301 = true then (freshetlaw13_LexPlaces.l0 k x0 x3 (wrap64 (x6 + 1))) else (some false))) else (freshetlaw13_LexPlaces.l0 k x0 x3 (wrap64 (x6 + 1))))
end
def freshetlaw13_LexPlaces.f (k : Nat) (a0 : ByteArray) : Option (Bool) := (freshetlaw13_awake.f k).bind fun t291 => (if t291 = true then ((xScan.f a0).bind fun bt292 => (if bt292.2.2 = 0 then (if (bt292.1.length : Int) < 1 then (freshetlaw13_LexPlaces.j0 k a0 bt292.1 true) else (if 0 ≤ (wrap64 ((bt292.1.length : Int) - 1)) then (if (wrap64 ((bt292.1.length : Int) - 1)) < (bt292.1.length : Int) then (if (!(((rd_T34 bt292.1 (wrap64 ((bt292.1.length : Int) - 1))).f0) == 0) || (!((((rd_T34 bt292.1 (wrap64 ((bt292.1.length : Int) - 1))).f1).toList) == ([] : List UInt8)) || (!(((rd_T34 bt292.1 (wrap64 ((bt292.1.length : Int) - 1))).f2) == (a0.size : Int))))) = true then (freshetlaw13_LexPlaces.j0 k a0 bt292.1 true) else (freshetlaw13_LexPlaces.j0 k a0 bt292.1 (decide ((bt292.1.length : Int) > 1001)))) else (none)) else (none))) else (some ((bt292.1.length : Int) == 0)))) else (some false))
theorem freshetlaw13_LexPlaces.mono_l : ∀ k, (∀ y0 y1 y2, LeO (freshetlaw13_LexPlaces.j0 k y0 y1 y2) (freshetlaw13_LexPlaces.j0 (k + 1) y0 y1 y2)) ∧ (∀ y0 y1 y2, LeO (freshetlaw13_LexPlaces.l0 k y0 y1 y2) (freshetlaw13_LexPlaces.l0 (k + 1) y0 y1 y2)) ∧ (∀ y0 y1 y2 y3 y4 y5 y6, LeO (freshetlaw13_LexPlaces.j2 k y0 y1 y2 y3 y4 y5 y6) (freshetlaw13_LexPlaces.j2 (k + 1) y0 y1 y2 y3 y4 y5 y6)) ∧ (∀ y0 y1 y2 y3 y4 y5 y6, LeO (freshetlaw13_LexPlaces.j3 k y0 y1 y2 y3 y4 y5 y6) (freshetlaw13_LexPlaces.j3 (k + 1) y0 y1 y2 y3 y4 y5 y6))
  | 0 => ⟨fun _ _ _ r h => by simp [freshetlaw13_LexPlaces.j0] at h, fun _ _ _ r h => by simp [freshetlaw13_LexPlaces.l0] at h, fun _ _ _ _ _ _ _ r h => by simp [freshetlaw13_LexPlaces.j2] at h, fun _ _ _ _ _ _ _ r h => by simp [freshetlaw13_LexPlaces.j3] at h⟩
  | k + 1 => by
    obtain ⟨ih0, ih1, ih2, ih3⟩ := freshetlaw13_LexPlaces.mono_l k
    refine ⟨?_, ?_, ?_, ?_⟩
    · intro y0 y1 y2
      unfold freshetlaw13_LexPlaces.j0
      repeat' first
      | (with_reducible exact ih0 _ _ _)
      | (with_reducible exact ih1 _ _ _)
      | (with_reducible exact ih2 _ _ _ _ _ _ _)
      | (with_reducible exact ih3 _ _ _ _ _ _ _)
      | (with_reducible exact freshetlaw13_awake.mono _)
      | (with_reducible exact LeO.refl _)
      | (with_reducible exact LeO.none _)
      | (with_reducible refine LeO.ite ?_ ?_)
      | (with_reducible refine LeO.bind ?_ (fun _ => ?_))
      | exact ih0 _ _ _
      | exact ih1 _ _ _
      | exact ih2 _ _ _ _ _ _ _
      | exact ih3 _ _ _ _ _ _ _
      | exact freshetlaw13_awake.mono _
      | exact LeO.none _
      | refine LeO.ite ?_ ?_
      | refine LeO.bind ?_ (fun _ => ?_)
    · intro y0 y1 y2
      unfold freshetlaw13_LexPlaces.l0
      repeat' first
      | (with_reducible exact ih0 _ _ _)
      | (with_reducible exact ih1 _ _ _)
      | (with_reducible exact ih2 _ _ _ _ _ _ _)
      | (with_reducible exact ih3 _ _ _ _ _ _ _)
      | (with_reducible exact freshetlaw13_awake.mono _)
      | (with_reducible exact LeO.refl _)
      | (with_reducible exact LeO.none _)
      | (with_reducible refine LeO.ite ?_ ?_)
      | (with_reducible refine LeO.bind ?_ (fun _ => ?_))
      | exact ih0 _ _ _
      | exact ih1 _ _ _
      | exact ih2 _ _ _ _ _ _ _
      | exact ih3 _ _ _ _ _ _ _
      | exact freshetlaw13_awake.mono _
      | exact LeO.none _
      | refine LeO.ite ?_ ?_
      | refine LeO.bind ?_ (fun _ => ?_)
    · intro y0 y1 y2 y3 y4 y5 y6
      unfold freshetlaw13_LexPlaces.j2
      repeat' first
      | (with_reducible exact ih0 _ _ _)
      | (with_reducible exact ih1 _ _ _)
      | (with_reducible exact ih2 _ _ _ _ _ _ _)
      | (with_reducible exact ih3 _ _ _ _ _ _ _)
      | (with_reducible exact freshetlaw13_awake.mono _)
      | (with_reducible exact LeO.refl _)
      | (with_reducible exact LeO.none _)
      | (with_reducible refine LeO.ite ?_ ?_)
      | (with_reducible refine LeO.bind ?_ (fun _ => ?_))
      | exact ih0 _ _ _
      | exact ih1 _ _ _
      | exact ih2 _ _ _ _ _ _ _
      | exact ih3 _ _ _ _ _ _ _
      | exact freshetlaw13_awake.mono _
      | exact LeO.none _
      | refine LeO.ite ?_ ?_
      | refine LeO.bind ?_ (fun _ => ?_)
    · intro y0 y1 y2 y3 y4 y5 y6
      unfold freshetlaw13_LexPlaces.j3
      repeat' first
      | (with_reducible exact ih0 _ _ _)
      | (with_reducible exact ih1 _ _ _)
      | (with_reducible exact ih2 _ _ _ _ _ _ _)
      | (with_reducible exact ih3 _ _ _ _ _ _ _)
      | (with_reducible exact freshetlaw13_awake.mono _)
      | (with_reducible exact LeO.refl _)
      | (with_reducible exact LeO.none _)
      | (with_reducible refine LeO.ite ?_ ?_)
      | (with_reducible refine LeO.bind ?_ (fun _ => ?_))
      | exact ih0 _ _ _
      | exact ih1 _ _ _
      | exact ih2 _ _ _ _ _ _ _
      | exact ih3 _ _ _ _ _ _ _
      | exact freshetlaw13_awake.mono _
      | exact LeO.none _
      | refine LeO.ite ?_ ?_
      | refine LeO.bind ?_ (fun _ => ?_)
theorem freshetlaw13_LexPlaces.mono : ∀ a0 k, LeO (freshetlaw13_LexPlaces.f k a0) (freshetlaw13_LexPlaces.f (k + 1) a0) := by
  intro a0 k
  obtain ⟨ih0, ih1, ih2, ih3⟩ := freshetlaw13_LexPlaces.mono_l k
  unfold freshetlaw13_LexPlaces.f
  repeat' first
      | (with_reducible exact ih0 _ _ _)
      | (with_reducible exact ih1 _ _ _)
      | (with_reducible exact ih2 _ _ _ _ _ _ _)
      | (with_reducible exact ih3 _ _ _ _ _ _ _)
      | (with_reducible exact freshetlaw13_awake.mono _)
      | (with_reducible exact LeO.refl _)
      | (with_reducible exact LeO.none _)
      | (with_reducible refine LeO.ite ?_ ?_)
      | (with_reducible refine LeO.bind ?_ (fun _ => ?_))
      | exact ih0 _ _ _
      | exact ih1 _ _ _
      | exact ih2 _ _ _ _ _ _ _
      | exact ih3 _ _ _ _ _ _ _
      | exact freshetlaw13_awake.mono _
      | exact LeO.none _
      | refine LeO.ite ?_ ?_
      | refine LeO.bind ?_ (fun _ => ?_)
set_option maxHeartbeats 8000000 in
set_option maxRecDepth 100000 in
theorem freshetlaw13_LexPlaces.calls (k : Nat) (a0 : ByteArray) (r : Bool) (w : World) (hT : Tab w) (h : freshetlaw13_LexPlaces.f k a0 = some r) :
    Calls Tryd.prog 8 #[.string a0] w fun e w' => e = .returned (.bool r) ∧ Below w.heap.size w w' := by
  have hu34 := Tryd.underlying34
  have HB := Aside0.mk (Below.refl w.heap.size w)
  have HT := Aside0.mk hT
  clear hT
  have H : ((freshetlaw13_awake.f k).bind fun t291 => (if t291 = true then ((xScan.f a0).bind fun bt292 => (if bt292.2.2 = 0 then (if (bt292.1.length : Int) < 1 then (freshetlaw13_LexPlaces.j0 k a0 bt292.1 true) else (if 0 ≤ (wrap64 ((bt292.1.length : Int) - 1)) then (if (wrap64 ((bt292.1.length : Int) - 1)) < (bt292.1.length : Int) then (if (!(((rd_T34 bt292.1 (wrap64 ((bt292.1.length : Int) - 1))).f0) == 0) || (!((((rd_T34 bt292.1 (wrap64 ((bt292.1.length : Int) - 1))).f1).toList) == ([] : List UInt8)) || (!(((rd_T34 bt292.1 (wrap64 ((bt292.1.length : Int) - 1))).f2) == (a0.size : Int))))) = true then (freshetlaw13_LexPlaces.j0 k a0 bt292.1 true) else (freshetlaw13_LexPlaces.j0 k a0 bt292.1 (decide ((bt292.1.length : Int) > 1001)))) else (none)) else (none))) else (some ((bt292.1.length : Int) == 0)))) else (some false))) = some r := h
  clear h
  replace H := Option.bind_eq_some_iff.mp H
  obtain ⟨t291, A20, H⟩ := H
  replace H : (if t291 = true then ((xScan.f a0).bind fun bt292 => (if bt292.2.2 = 0 then (if (bt292.1.length : Int) < 1 then (freshetlaw13_LexPlaces.j0 k a0 bt292.1 true) else (if 0 ≤ (wrap64 ((bt292.1.length : Int) - 1)) then (if (wrap64 ((bt292.1.length : Int) - 1)) < (bt292.1.length : Int) then (if (!(((rd_T34 bt292.1 (wrap64 ((bt292.1.length : Int) - 1))).f0) == 0) || (!((((rd_T34 bt292.1 (wrap64 ((bt292.1.length : Int) - 1))).f1).toList) == ([] : List UInt8)) || (!(((rd_T34 bt292.1 (wrap64 ((bt292.1.length : Int) - 1))).f2) == (a0.size : Int))))) = true then (freshetlaw13_LexPlaces.j0 k a0 bt292.1 true) else (freshetlaw13_LexPlaces.j0 k a0 bt292.1 (decide ((bt292.1.length : Int) > 1001)))) else (none)) else (none))) else (some ((bt292.1.length : Int) == 0)))) else (some false)) = some r := H
  have A2 := Aside0.mk A20
  clear A20
  by_cases c3 : t291 = true
  · subst c3
    have H1 : ((xScan.f a0).bind fun bt292 => (if bt292.2.2 = 0 then (if (bt292.1.length : Int) < 1 then (freshetlaw13_LexPlaces.j0 k a0 bt292.1 true) else (if 0 ≤ (wrap64 ((bt292.1.length : Int) - 1)) then (if (wrap64 ((bt292.1.length : Int) - 1)) < (bt292.1.length : Int) then (if (!(((rd_T34 bt292.1 (wrap64 ((bt292.1.length : Int) - 1))).f0) == 0) || (!((((rd_T34 bt292.1 (wrap64 ((bt292.1.length : Int) - 1))).f1).toList) == ([] : List UInt8)) || (!(((rd_T34 bt292.1 (wrap64 ((bt292.1.length : Int) - 1))).f2) == (a0.size : Int))))) = true then (freshetlaw13_LexPlaces.j0 k a0 bt292.1 true) else (freshetlaw13_LexPlaces.j0 k a0 bt292.1 (decide ((bt292.1.length : Int) > 1001)))) else (none)) else (none))) else (some ((bt292.1.length : Int) == 0)))) = some r := by rw [if_pos rfl] at H; exact H
    clear H
    have H := H1
    clear H1
    replace H := Option.bind_eq_some_iff.mp H
    obtain ⟨⟨t292, t293, t294⟩, A40, H⟩ := H
    replace H : (if t294 = 0 then (if (t292.length : Int) < 1 then (freshetlaw13_LexPlaces.j0 k a0 t292 true) else (if 0 ≤ (wrap64 ((t292.length : Int) - 1)) then (if (wrap64 ((t292.length : Int) - 1)) < (t292.length : Int) then (if (!(((rd_T34 t292 (wrap64 ((t292.length : Int) - 1))).f0) == 0) || (!((((rd_T34 t292 (wrap64 ((t292.length : Int) - 1))).f1).toList) == ([] : List UInt8)) || (!(((rd_T34 t292 (wrap64 ((t292.length : Int) - 1))).f2) == (a0.size : Int))))) = true then (freshetlaw13_LexPlaces.j0 k a0 t292 true) else (freshetlaw13_LexPlaces.j0 k a0 t292 (decide ((t292.length : Int) > 1001)))) else (none)) else (none))) else (some ((t292.length : Int) == 0))) = some r := H
    have A4 := Aside0.mk A40
    clear A40
    by_cases c5 : t294 = 0
    · rw [if_pos c5] at H
      have c5b0 : (t294 == 0) = true := beq_iff_eq.mpr c5
      have c5b1 : (t294 != 0) = false := bne_eq_false_iff_eq.mpr c5
      clear c5
      have HC6 := Aside0.mk H
      clear H
      go_enter Tryd.func8, Tryd.ntmps8
      go_upto_region 6 with (first | (go_at_call 9; (with_reducible refine (freshetlaw13_awake.calls k  true _ ?side1 A2.out).mono ?_); (case side1 => first | exact HT.out | exact tab_at HT.out (by repeat (first | (with_reducible first | exact HB.out | apply below_alloc | apply pw_below_drewN | apply below_drew1) | exact HB.out)) | (repeat (first | exact HT.out | refine tab_drewN ?_ | refine tab_drew ?_))); rintro e w7 ⟨rfl, hb⟩; have n0_ := Aside0.mk (below_step (by repeat (first | (with_reducible first | exact HB.out | apply below_alloc | apply pw_below_drewN | apply below_drew1) | exact HB.out)) hb); clear HB; have HB := n0_; clear n0_; (try clear hb); (try clear hb2); (try clear hk); (try clear hi)) | (go_at_call 10; (with_reducible refine (xScan.calls a0 t292 t293 t294 _ ?side1 A4.out).mono ?_); (case side1 => first | exact HT.out | exact tab_at HT.out (by repeat (first | (with_reducible first | exact HB.out | apply below_alloc | apply pw_below_drewN | apply below_drew1) | exact HB.out)) | (repeat (first | exact HT.out | refine tab_drewN ?_ | refine tab_drew ?_))); rintro e w8 ⟨v295, rfl, ho0, hb⟩; have n0_ := Aside0.mk (Kd.R_lower ho0 (below_size (by repeat (first | (with_reducible first | exact HB.out | apply below_alloc | apply pw_below_drewN | apply below_drew1) | exact HB.out)))); have n1_ := Aside0.mk (below_step (by repeat (first | (with_reducible first | exact HB.out | apply below_alloc | apply pw_below_drewN | apply below_drew1) | exact HB.out)) hb); clear HB; have HO296 := n0_; have HB := n1_; clear n0_ n1_; (try clear hb); (try clear hb2); (try clear hk); (try clear hi); (try clear ho0)))
      repeat (go_quiet (first | (go_at_call 9; (with_reducible refine (freshetlaw13_awake.calls k  true _ ?side1 A2.out).mono ?_); (case side1 => first | exact HT.out | exact tab_at HT.out (by repeat (first | (with_reducible first | exact HB.out | apply below_alloc | apply pw_below_drewN | apply below_drew1) | exact HB.out)) | (repeat (first | exact HT.out | refine tab_drewN ?_ | refine tab_drew ?_))); rintro e w7 ⟨rfl, hb⟩; have n0_ := Aside0.mk (below_step (by repeat (first | (with_reducible first | exact HB.out | apply below_alloc | apply pw_below_drewN | apply below_drew1) | exact HB.out)) hb); clear HB; have HB := n0_; clear n0_; (try clear hb); (try clear hb2); (try clear hk); (try clear hi)) | (go_at_call 10; (with_reducible refine (xScan.calls a0 t292 t293 t294 _ ?side1 A4.out).mono ?_); (case side1 => first | exact HT.out | exact tab_at HT.out (by repeat (first | (with_reducible first | exact HB.out | apply below_alloc | apply pw_below_drewN | apply below_drew1) | exact HB.out)) | (repeat (first | exact HT.out | refine tab_drewN ?_ | refine tab_drew ?_))); rintro e w8 ⟨v295, rfl, ho0, hb⟩; have n0_ := Aside0.mk (Kd.R_lower ho0 (below_size (by repeat (first | (with_reducible first | exact HB.out | apply below_alloc | apply pw_below_drewN | apply below_drew1) | exact HB.out)))); have n1_ := Aside0.mk (below_step (by repeat (first | (with_reducible first | exact HB.out | apply below_alloc | apply pw_below_drewN | apply below_drew1) | exact HB.out)) hb); clear HB; have HO296 := n0_; have HB := n1_; clear n0_ n1_; (try clear hb); (try clear hb2); (try clear hk); (try clear hi); (try clear ho0))); go_upto_region 6 with (first | (go_at_call 9; (with_reducible refine (freshetlaw13_awake.calls k  true _ ?side1 A2.out).mono ?_); (case side1 => first | exact HT.out | exact tab_at HT.out (by repeat (first | (with_reducible first | exact HB.out | apply below_alloc | apply pw_below_drewN | apply below_drew1) | exact HB.out)) | (repeat (first | exact HT.out | refine tab_drewN ?_ | refine tab_drew ?_))); rintro e w7 ⟨rfl, hb⟩; have n0_ := Aside0.mk (below_step (by repeat (first | (with_reducible first | exact HB.out | apply below_alloc | apply pw_below_drewN | apply below_drew1) | exact HB.out)) hb); clear HB; have HB := n0_; clear n0_; (try clear hb); (try clear hb2); (try clear hk); (try clear hi)) | (go_at_call 10; (with_reducible refine (xScan.calls a0 t292 t293 t294 _ ?side1 A4.out).mono ?_); (case side1 => first | exact HT.out | exact tab_at HT.out (by repeat (first | (with_reducible first | exact HB.out | apply below_alloc | apply pw_below_drewN | apply below_drew1) | exact HB.out)) | (repeat (first | exact HT.out | refine tab_drewN ?_ | refine tab_drew ?_))); rintro e w8 ⟨v295, rfl, ho0, hb⟩; have n0_ := Aside0.mk (Kd.R_lower ho0 (below_size (by repeat (first | (with_reducible first | exact HB.out | apply below_alloc | apply pw_below_drewN | apply below_drew1) | exact HB.out)))); have n1_ := Aside0.mk (below_step (by repeat (first | (with_reducible first | exact HB.out | apply below_alloc | apply pw_below_drewN | apply below_drew1) | exact HB.out)) hb); clear HB; have HO296 := n0_; have HB := n1_; clear n0_ n1_; (try clear hb); (try clear hb2); (try clear hk); (try clear hi); (try clear ho0))))
      (try simp only [Act.put, List.setIfInBounds_toArray, List.set_cons_zero, List.set_cons_succ])
      go_cut [41] (fun v41 wc => ∃ (kq : Nat) (x41_5 : Bool), v41 = .bool x41_5 ∧ Aside0 (freshetlaw13_LexPlaces.j0 kq a0 t292 x41_5 = some r) ∧ Aside0 (kq ≤ k) ∧ Aside0 (Kd.R k34 34 wc w.heap.size (fun _ => True) v295 t292) ∧ Aside0 (Below w.heap.size w wc))
      case first =>
        have H := HC6.out
        clear HC6
        by_cases c9 : (t292.length : Int) < 1
        · rw [if_pos c9] at H
          have c9b0 : decide ((t292.length : Int) < 1) = true := decide_eq_true c9
          have c9b1 : decide (t292.length < 1) = true := decide_eq_true (by omega)
          clear c9
          (first | rw [c9b0] | (simp only [i64_w, i32_w]; rw [c9b0]) | skip)
          have H' := Aside0.mk H
          clear H
          obtain ⟨Ao10, co10, eo10⟩ := Kd.R_slice HO296.out
          subst eo10
          go_wp2
          repeat (go_quiet (fail); try go_wp2)
          go_meet
          case rel => exact ⟨_, (true), (by first | rfl | (simp; done) | (simp [*]; done)), H', ⟨by first | omega | exact Nat.le_refl _⟩, ⟨by (with_reducible repeat (first | apply Kd.R_alloc | apply Kd.R_drewN | apply Kd.R_drew)); exact HO296.out⟩, ⟨by repeat (first | (with_reducible first | exact HB.out | apply below_alloc | apply pw_below_drewN | apply below_drew1) | exact HB.out)⟩⟩
        · rw [if_neg c9] at H
          have c9b0 : decide ((t292.length : Int) < 1) = false := decide_eq_false c9
          have c9b1 : decide (t292.length < 1) = false := decide_eq_false (by omega)
          clear c9
          (first | rw [c9b0] | (simp only [i64_w, i32_w]; rw [c9b0]) | skip)
          obtain ⟨ji11, hji11⟩ : ∃ j_ : Int, (wrap64 ((t292.length : Int) - 1)) = j_ := ⟨_, rfl⟩
          replace H : (if 0 ≤ (ji11) then (if (ji11) < (t292.length : Int) then (if (!(((rd_T34 t292 (ji11)).f0) == 0) || (!((((rd_T34 t292 (ji11)).f1).toList) == ([] : List UInt8)) || (!(((rd_T34 t292 (ji11)).f2) == (a0.size : Int))))) = true then (freshetlaw13_LexPlaces.j0 k a0 t292 true) else (freshetlaw13_LexPlaces.j0 k a0 t292 (decide ((t292.length : Int) > 1001)))) else (none)) else (none)) = some r := by first | (rw [hji11] at H; exact H) | (simp only [hji11] at H ⊢; exact H)
          have hji11w : (IntKind.i64.wrap ((t292.length : Int) - 1)) = ji11 := (i64_w _).trans hji11
          by_cases c12 : 0 ≤ (ji11)
          · rw [if_pos c12] at H
            have c12b0 : decide (0 ≤ (ji11)) = true := decide_eq_true c12
            clear c12
            by_cases c13 : (ji11) < (t292.length : Int)
            · rw [if_pos c13] at H
              have c13b0 : decide ((ji11) < (t292.length : Int)) = true := decide_eq_true c13
              clear c13
              by_cases c14 : (!(((rd_T34 t292 (ji11)).f0) == 0) || (!((((rd_T34 t292 (ji11)).f1).toList) == ([] : List UInt8)) || (!(((rd_T34 t292 (ji11)).f2) == (a0.size : Int))))) = true
              · rw [if_pos c14] at H
                have c14b0 : (!(((rd_T34 t292 (ji11)).f0) == 0) || (!((((rd_T34 t292 (ji11)).f1).toList) == ([] : List UInt8)) || (!(((rd_T34 t292 (ji11)).f2) == (a0.size : Int))))) = true := c14
                have c14q : (¬(rd_T34 t292 (ji11)).f0 = 0 ∨ ¬(rd_T34 t292 (ji11)).f1.toList = [] ∨ ¬(rd_T34 t292 (ji11)).f2 = (a0.size : Int)) = True := eq_true (by simpa using c14b0)
                have c14p : ((rd_T34 t292 (ji11)).f0 = 0 ∧ (rd_T34 t292 (ji11)).f1.toList = [] ∧ (rd_T34 t292 (ji11)).f2 = (a0.size : Int)) = False := eq_false (fun hh_ => by simp [hh_.1, hh_.2.1, hh_.2.2] at c14b0)
                clear c14
                have H' := Aside0.mk H
                clear H
                obtain ⟨Ao15, co15, eo15⟩ := Kd.R_slice HO296.out
                subst eo15
                have p297 : 0 ≤ ((ji11) : Int) := of_decide_eq_true (by first | (with_reducible assumption) | assumption)
                have q297 : (ji11) < (t292.length : Int) := of_decide_eq_true (by first | (with_reducible assumption) | assumption)
                obtain ⟨ad297, e297, hx297_0, hx297_1, hx297_2⟩ := at_T34 (Kd.R_reads' HO296.out).2.2 (ji11) p297 q297
                cases e297
                replace p297 := eq_true p297
                replace q297 := eq_true q297
                go_wp2
                repeat (go_quiet (fail); try go_wp2)
                go_meet
                case rel => exact ⟨_, (true), (by first | rfl | (simp; done) | (simp [*]; done)), H', ⟨by first | omega | exact Nat.le_refl _⟩, ⟨by (with_reducible repeat (first | apply Kd.R_alloc | apply Kd.R_drewN | apply Kd.R_drew)); exact HO296.out⟩, ⟨by repeat (first | (with_reducible first | exact HB.out | apply below_alloc | apply pw_below_drewN | apply below_drew1) | exact HB.out)⟩⟩
              · rw [if_neg c14] at H
                have c14b0 : (!(((rd_T34 t292 (ji11)).f0) == 0) || (!((((rd_T34 t292 (ji11)).f1).toList) == ([] : List UInt8)) || (!(((rd_T34 t292 (ji11)).f2) == (a0.size : Int))))) = false := by simpa using c14
                have c14q : (¬(rd_T34 t292 (ji11)).f0 = 0 ∨ ¬(rd_T34 t292 (ji11)).f1.toList = [] ∨ ¬(rd_T34 t292 (ji11)).f2 = (a0.size : Int)) = False := eq_false (fun hh_ => by simp at c14b0; rcases hh_ with h_ | h_ | h_; exact h_ c14b0.1; exact h_ c14b0.2.1; exact h_ c14b0.2.2)
                have c14p : ((rd_T34 t292 (ji11)).f0 = 0 ∧ (rd_T34 t292 (ji11)).f1.toList = [] ∧ (rd_T34 t292 (ji11)).f2 = (a0.size : Int)) = True := eq_true (by simpa using c14b0)
                clear c14
                have H' := Aside0.mk H
                clear H
                obtain ⟨Ao16, co16, eo16⟩ := Kd.R_slice HO296.out
                subst eo16
                have p297 : 0 ≤ ((ji11) : Int) := of_decide_eq_true (by first | (with_reducible assumption) | assumption)
                have q297 : (ji11) < (t292.length : Int) := of_decide_eq_true (by first | (with_reducible assumption) | assumption)
                obtain ⟨ad297, e297, hx297_0, hx297_1, hx297_2⟩ := at_T34 (Kd.R_reads' HO296.out).2.2 (ji11) p297 q297
                cases e297
                replace p297 := eq_true p297
                replace q297 := eq_true q297
                go_wp2
                repeat (go_quiet (fail); try go_wp2)
                go_meet
                case rel => exact ⟨_, (decide ((t292.length : Int) > 1001)), (by first | rfl | (simp; done) | (simp [*]; done)), H', ⟨by first | omega | exact Nat.le_refl _⟩, ⟨by (with_reducible repeat (first | apply Kd.R_alloc | apply Kd.R_drewN | apply Kd.R_drew)); exact HO296.out⟩, ⟨by repeat (first | (with_reducible first | exact HB.out | apply below_alloc | apply pw_below_drewN | apply below_drew1) | exact HB.out)⟩⟩
            · rw [if_neg c13] at H
              exact absurd H (by simp)
          · rw [if_neg c12] at H
            exact absurd H (by simp)
      case rest =>
        clear HC6
        try clear c1
        try clear p2
        try clear q2
        try clear hx2
        try clear c3
        try clear c5
        try clear c5b0
        try clear c5b1
        try clear p6
        try clear c8
        try clear c9
        try clear c9b0
        try clear c9b1
        try clear c12
        try clear c12b0
        try clear c13
        try clear c13b0
        try clear c14
        try clear c14b0
        try clear hx297_0
        try clear hx297_1
        try clear hx297_2
        try clear p297
        try clear q297
        obtain ⟨kq, x41_5, rfl, HA, HJ5, HO_3, HB⟩ := hcut
        cases kq with
        | zero => exact absurd HA.out (by simp [freshetlaw13_LexPlaces.j0])
        | succ kj5 =>
          have H := HA.out
          clear HA
          simp only [freshetlaw13_LexPlaces.j0] at H
          by_cases c17 : x41_5 = true
          · subst c17
            have H1 : (some false) = some r := by rw [if_pos rfl] at H; exact H
            clear H
            have H := H1
            clear H1
            obtain rfl := Option.some.inj H
            go_wp2
            repeat (go_quiet (fail); try go_wp2)
            go_ret
            exact ⟨by first | rfl | (simp [errW_none, errW_some] <;> rfl) | (simp [*, errW_none, errW_some] <;> rfl), by repeat (first | (with_reducible first | exact HB.out | apply below_alloc | apply pw_below_drewN | apply below_drew1) | exact HB.out)⟩
          · replace c17 := Bool.eq_false_iff.mpr c17
            subst c17
            have H1 : (freshetlaw13_LexPlaces.l0 kj5 a0 t292 0) = some r := by rw [if_neg (show ¬ (false = true) by decide)] at H; exact H
            clear H
            have H := H1
            clear H1
            have H' := Aside0.mk H
            clear H
            go_wp2
            repeat (go_quiet (fail); try go_wp2)
            go_loopg [6] kj5 (fun kq v6 w' => ∃ (x6_2 : Int), v6 = .int .i64 x6_2 ∧ Aside0 (freshetlaw13_LexPlaces.l0 kq a0 t292 x6_2 = some r) ∧ Aside0 (kq ≤ kj5) ∧ Aside0 (Kd.R k34 34 w' w.heap.size (fun _ => True) v295 t292) ∧ Aside0 (Below w.heap.size w w'))
            case atStart => exact ⟨(0), (by first | rfl | (simp; done) | (simp [*]; done)), H', ⟨Nat.le_refl _⟩, ⟨by (with_reducible repeat (first | apply Kd.R_alloc | apply Kd.R_drewN | apply Kd.R_drew)); exact HO_3.out⟩, ⟨by repeat (first | (with_reducible first | exact HB.out | apply below_alloc | apply pw_below_drewN | apply below_drew1) | exact HB.out)⟩⟩
            case round =>
              clear H'
              try clear c1
              try clear p2
              try clear q2
              try clear hx2
              try clear c3
              try clear c5
              try clear c5b0
              try clear c5b1
              try clear p6
              try clear c8
              try clear c9
              try clear c9b0
              try clear c9b1
              try clear c12
              try clear c12b0
              try clear c13
              try clear c13b0
              try clear c14
              try clear c14b0
              try clear c17
              try clear hx297_0
              try clear hx297_1
              try clear hx297_2
              try clear p2
              try clear p297
              try clear p6
              try clear q2
              try clear q297
              obtain ⟨x6_2, rfl, HA, HK2, HO_3, HB⟩ := hrel
              cases gk with
              | zero => exact absurd HA.out (by simp [freshetlaw13_LexPlaces.l0])
              | succ k2 =>
                have H := HA.out
                clear HA
                simp only [freshetlaw13_LexPlaces.l0] at H
                by_cases c18 : x6_2 < (wrap64 ((t292.length : Int) - 1))
                · rw [if_pos c18] at H
                  have c18b0 : decide (x6_2 < (wrap64 ((t292.length : Int) - 1))) = true := decide_eq_true c18
                  clear c18
                  by_cases c19 : 0 ≤ x6_2
                  · rw [if_pos c19] at H
                    have c19b0 : decide (0 ≤ x6_2) = true := decide_eq_true c19
                    clear c19
                    by_cases c20 : x6_2 < (t292.length : Int)
                    · rw [if_pos c20] at H
                      have c20b0 : decide (x6_2 < (t292.length : Int)) = true := decide_eq_true c20
                      clear c20
                      have HC21 := Aside0.mk H
                      clear H
                      obtain ⟨Ao22, co22, eo22⟩ := Kd.R_slice HO_3.out
                      subst eo22
                      have p298 : 0 ≤ (x6_2 : Int) := of_decide_eq_true (by first | (with_reducible assumption) | assumption)
                      have q298 : x6_2 < (t292.length : Int) := of_decide_eq_true (by first | (with_reducible assumption) | assumption)
                      obtain ⟨ad298, e298, hx298_0, hx298_1, hx298_2⟩ := at_T34 (Kd.R_reads' HO_3.out).2.2 x6_2 p298 q298
                      cases e298
                      replace p298 := eq_true p298
                      replace q298 := eq_true q298
                      go_upto_region 12 with (first | ((with_reducible refine gate_dst (N := 7) rfl ?_); (try (refine gate_guard (by rfl) ?_; dsimp only)); refine box_event ?hg (N := 7) ?hd (cs := #[.int .i64 0, .string (⟨#[]⟩ : ByteArray), .int .i64 0]) (t := 34) ?hr ?_; (case hd => rfl); (case hg => rfl); (case hr => first | (go_simp; done) | (go_simp; rfl)); intro gb299 hg w23 hbox hb; have n0_ := Aside0.mk (Kd.R_below (Kd.R_elderB (by (with_reducible repeat (first | apply Kd.R_alloc | apply Kd.R_drewN | apply Kd.R_drew)); exact HO_3.out) gb299 (Nat.le_of_eq hg.symm)) hb); have n1_ := Aside0.mk (below_step (by repeat (first | (with_reducible first | exact HB.out | apply below_alloc | apply pw_below_drewN | apply below_drew1) | exact HB.out)) hb); have n2_ := Aside0.mk (hbox); have n3_ := Aside0.mk ((by rw [hg]; exact (below_size (by repeat (first | (with_reducible first | exact HB.out | apply below_alloc | apply pw_below_drewN | apply below_drew1) | exact HB.out))) : w.heap.size ≤ gb299)); have n4_ := Aside0.mk ((by rw [hg]; exact (below_size (by repeat (first | (with_reducible first | exact HB.out | apply below_alloc | apply pw_below_drewN | apply below_drew1) | exact HB.out))) : w.heap.size ≤ gb299)); clear HO_3; clear HB; have HO_3 := n0_; have HB := n1_; have BK299 := n2_; have GW299 := n3_; have GE299 := n4_; clear n0_ n1_ n2_ n3_ n4_; clear hb hbox hg; have hcz24_0 : w23.cell? ⟨gb299, 0, none⟩ = some (.int .i64 0) := (blk_cell BK299.out 0).trans rfl; have hcz24_1 : w23.cell? ⟨gb299, 1, none⟩ = some (.string (⟨#[]⟩ : ByteArray)) := (blk_cell BK299.out 1).trans rfl; have hcz24_2 : w23.cell? ⟨gb299, 2, none⟩ = some (.int .i64 0) := (blk_cell BK299.out 2).trans rfl; have hfz24_0 := blk_frozen BK299.out 0; have hfz24_1 := blk_frozen BK299.out 1; have hfz24_2 := blk_frozen BK299.out 2))
                      repeat (go_quiet (first | ((with_reducible refine gate_dst (N := 7) rfl ?_); (try (refine gate_guard (by rfl) ?_; dsimp only)); refine box_event ?hg (N := 7) ?hd (cs := #[.int .i64 0, .string (⟨#[]⟩ : ByteArray), .int .i64 0]) (t := 34) ?hr ?_; (case hd => rfl); (case hg => rfl); (case hr => first | (go_simp; done) | (go_simp; rfl)); intro gb299 hg w23 hbox hb; have n0_ := Aside0.mk (Kd.R_below (Kd.R_elderB (by (with_reducible repeat (first | apply Kd.R_alloc | apply Kd.R_drewN | apply Kd.R_drew)); exact HO_3.out) gb299 (Nat.le_of_eq hg.symm)) hb); have n1_ := Aside0.mk (below_step (by repeat (first | (with_reducible first | exact HB.out | apply below_alloc | apply pw_below_drewN | apply below_drew1) | exact HB.out)) hb); have n2_ := Aside0.mk (hbox); have n3_ := Aside0.mk ((by rw [hg]; exact (below_size (by repeat (first | (with_reducible first | exact HB.out | apply below_alloc | apply pw_below_drewN | apply below_drew1) | exact HB.out))) : w.heap.size ≤ gb299)); have n4_ := Aside0.mk ((by rw [hg]; exact (below_size (by repeat (first | (with_reducible first | exact HB.out | apply below_alloc | apply pw_below_drewN | apply below_drew1) | exact HB.out))) : w.heap.size ≤ gb299)); clear HO_3; clear HB; have HO_3 := n0_; have HB := n1_; have BK299 := n2_; have GW299 := n3_; have GE299 := n4_; clear n0_ n1_ n2_ n3_ n4_; clear hb hbox hg; have hcz24_0 : w23.cell? ⟨gb299, 0, none⟩ = some (.int .i64 0) := (blk_cell BK299.out 0).trans rfl; have hcz24_1 : w23.cell? ⟨gb299, 1, none⟩ = some (.string (⟨#[]⟩ : ByteArray)) := (blk_cell BK299.out 1).trans rfl; have hcz24_2 : w23.cell? ⟨gb299, 2, none⟩ = some (.int .i64 0) := (blk_cell BK299.out 2).trans rfl; have hfz24_0 := blk_frozen BK299.out 0; have hfz24_1 := blk_frozen BK299.out 1; have hfz24_2 := blk_frozen BK299.out 2)); go_upto_region 12 with (first | ((with_reducible refine gate_dst (N := 7) rfl ?_); (try (refine gate_guard (by rfl) ?_; dsimp only)); refine box_event ?hg (N := 7) ?hd (cs := #[.int .i64 0, .string (⟨#[]⟩ : ByteArray), .int .i64 0]) (t := 34) ?hr ?_; (case hd => rfl); (case hg => rfl); (case hr => first | (go_simp; done) | (go_simp; rfl)); intro gb299 hg w23 hbox hb; have n0_ := Aside0.mk (Kd.R_below (Kd.R_elderB (by (with_reducible repeat (first | apply Kd.R_alloc | apply Kd.R_drewN | apply Kd.R_drew)); exact HO_3.out) gb299 (Nat.le_of_eq hg.symm)) hb); have n1_ := Aside0.mk (below_step (by repeat (first | (with_reducible first | exact HB.out | apply below_alloc | apply pw_below_drewN | apply below_drew1) | exact HB.out)) hb); have n2_ := Aside0.mk (hbox); have n3_ := Aside0.mk ((by rw [hg]; exact (below_size (by repeat (first | (with_reducible first | exact HB.out | apply below_alloc | apply pw_below_drewN | apply below_drew1) | exact HB.out))) : w.heap.size ≤ gb299)); have n4_ := Aside0.mk ((by rw [hg]; exact (below_size (by repeat (first | (with_reducible first | exact HB.out | apply below_alloc | apply pw_below_drewN | apply below_drew1) | exact HB.out))) : w.heap.size ≤ gb299)); clear HO_3; clear HB; have HO_3 := n0_; have HB := n1_; have BK299 := n2_; have GW299 := n3_; have GE299 := n4_; clear n0_ n1_ n2_ n3_ n4_; clear hb hbox hg; have hcz24_0 : w23.cell? ⟨gb299, 0, none⟩ = some (.int .i64 0) := (blk_cell BK299.out 0).trans rfl; have hcz24_1 : w23.cell? ⟨gb299, 1, none⟩ = some (.string (⟨#[]⟩ : ByteArray)) := (blk_cell BK299.out 1).trans rfl; have hcz24_2 : w23.cell? ⟨gb299, 2, none⟩ = some (.int .i64 0) := (blk_cell BK299.out 2).trans rfl; have hfz24_0 := blk_frozen BK299.out 0; have hfz24_1 := blk_frozen BK299.out 1; have hfz24_2 := blk_frozen BK299.out 2)))
                      (try simp only [Act.put, List.setIfInBounds_toArray, List.set_cons_zero, List.set_cons_succ])
                      go_cut [86] (fun v86 wc => ∃ (kq : Nat) (x86_20 : Bool), v86 = .bool x86_20 ∧ Aside0 (freshetlaw13_LexPlaces.j2 kq a0 t292 x6_2 x86_20 ((rd_T34 t292 x6_2).f0) ((rd_T34 t292 x6_2).f1) ((rd_T34 t292 x6_2).f2) = some r) ∧ Aside0 (kq ≤ k2) ∧ Aside0 (Kd.R k34 34 wc w.heap.size (fun k_ => k_ ≠ gb299) (.slice (some ad298) t292.length co22) t292) ∧ Aside0 (wc.heap[gb299]? = some (.cells #[.int .i64 ((rd_T34 t292 x6_2).f0), .string ((rd_T34 t292 x6_2).f1), .int .i64 ((rd_T34 t292 x6_2).f2)] 34 (0, 0))) ∧ Aside0 (Below w.heap.size w wc))
                      case first =>
                        have H := HC21.out
                        clear HC21
                        by_cases c25 : ((rd_T34 t292 x6_2).f0) < 1
                        · rw [if_pos c25] at H
                          have c25b0 : decide (((rd_T34 t292 x6_2).f0) < 1) = true := decide_eq_true c25
                          clear c25
                          (first | rw [c25b0] | (simp only [i64_w, i32_w]; rw [c25b0]) | skip)
                          have H' := Aside0.mk H
                          clear H
                          have hcz26_0 : w23.cell? ⟨gb299, 0, none⟩ = some (.int .i64 0) := (blk_cell BK299.out 0).trans rfl
                          have hcz26_1 : w23.cell? ⟨gb299, 1, none⟩ = some (.string (⟨#[]⟩ : ByteArray)) := (blk_cell BK299.out 1).trans rfl
                          have hcz26_2 : w23.cell? ⟨gb299, 2, none⟩ = some (.int .i64 0) := (blk_cell BK299.out 2).trans rfl
                          have hfz26_0 := blk_frozen BK299.out 0
                          have hfz26_1 := blk_frozen BK299.out 1
                          have hfz26_2 := blk_frozen BK299.out 2
                          go_wp2
                          repeat (go_quiet (fail); try go_wp2)
                          go_meet
                          case rel => exact ⟨_, (true), (by first | rfl | (simp; done) | (simp [*]; done)), H', ⟨by have := HJ5.out; have := HK2.out; first | omega | exact Nat.le_refl _⟩, ⟨by (with_reducible repeat (first | apply Kd.R_alloc | apply Kd.R_drewN | apply Kd.R_drew)); exact Kd.R_mono (Kd.R_far (p := ⟨gb299, 2, none⟩) (Kd.R_far (p := ⟨gb299, 1, none⟩) (Kd.R_far (p := ⟨gb299, 0, none⟩) (Kd.R_mono HO_3.out (fun k_ hk => (⟨hk, hk.2⟩ : _ ∧ k_ ≠ gb299))) (fun _ hk => hk.2) (.int .i64 ((rd_T34 t292 x6_2).f0))) (fun _ hk => hk.2) (.string ((rd_T34 t292 x6_2).f1))) (fun _ hk => hk.2) (.int .i64 ((rd_T34 t292 x6_2).f2))) (fun _ hk => hk.1.2)⟩, ⟨by (with_reducible repeat (first | refine blk_drewN ?_ _ | refine blk_drew ?_ | refine blk_alloc ?_ _)); refine blk_put (cs := #[.int .i64 ((rd_T34 t292 x6_2).f0), .string ((rd_T34 t292 x6_2).f1), .int .i64 0]) ?_ 2 _ rfl; (with_reducible repeat (first | refine blk_drewN ?_ _ | refine blk_drew ?_ | refine blk_alloc ?_ _)); refine blk_put (cs := #[.int .i64 ((rd_T34 t292 x6_2).f0), .string (⟨#[]⟩ : ByteArray), .int .i64 0]) ?_ 1 _ rfl; (with_reducible repeat (first | refine blk_drewN ?_ _ | refine blk_drew ?_ | refine blk_alloc ?_ _)); refine blk_put (cs := #[.int .i64 0, .string (⟨#[]⟩ : ByteArray), .int .i64 0]) ?_ 0 _ rfl; (with_reducible repeat (first | refine blk_drewN ?_ _ | refine blk_drew ?_ | refine blk_alloc ?_ _)); exact BK299.out⟩, ⟨by repeat (first | (with_reducible first | exact HB.out | apply below_alloc | apply pw_below_drewN | apply below_drew1 | refine below_set ?_ GE299.out) | exact HB.out)⟩⟩
                        · rw [if_neg c25] at H
                          have c25b0 : decide (((rd_T34 t292 x6_2).f0) < 1) = false := decide_eq_false c25
                          clear c25
                          (first | rw [c25b0] | (simp only [i64_w, i32_w]; rw [c25b0]) | skip)
                          by_cases c27 : ((rd_T34 t292 x6_2).f0) > 6
                          · rw [if_pos c27] at H
                            have c27b0 : decide (6 < ((rd_T34 t292 x6_2).f0)) = true := decide_eq_true c27
                            clear c27
                            have H' := Aside0.mk H
                            clear H
                            have hcz28_0 : w23.cell? ⟨gb299, 0, none⟩ = some (.int .i64 0) := (blk_cell BK299.out 0).trans rfl
                            have hcz28_1 : w23.cell? ⟨gb299, 1, none⟩ = some (.string (⟨#[]⟩ : ByteArray)) := (blk_cell BK299.out 1).trans rfl
                            have hcz28_2 : w23.cell? ⟨gb299, 2, none⟩ = some (.int .i64 0) := (blk_cell BK299.out 2).trans rfl
                            have hfz28_0 := blk_frozen BK299.out 0
                            have hfz28_1 := blk_frozen BK299.out 1
                            have hfz28_2 := blk_frozen BK299.out 2
                            go_wp2
                            repeat (go_quiet (fail); try go_wp2)
                            go_meet
                            case rel => exact ⟨_, (true), (by first | rfl | (simp; done) | (simp [*]; done)), H', ⟨by have := HJ5.out; have := HK2.out; first | omega | exact Nat.le_refl _⟩, ⟨by (with_reducible repeat (first | apply Kd.R_alloc | apply Kd.R_drewN | apply Kd.R_drew)); exact Kd.R_mono (Kd.R_far (p := ⟨gb299, 2, none⟩) (Kd.R_far (p := ⟨gb299, 1, none⟩) (Kd.R_far (p := ⟨gb299, 0, none⟩) (Kd.R_mono HO_3.out (fun k_ hk => (⟨hk, hk.2⟩ : _ ∧ k_ ≠ gb299))) (fun _ hk => hk.2) (.int .i64 ((rd_T34 t292 x6_2).f0))) (fun _ hk => hk.2) (.string ((rd_T34 t292 x6_2).f1))) (fun _ hk => hk.2) (.int .i64 ((rd_T34 t292 x6_2).f2))) (fun _ hk => hk.1.2)⟩, ⟨by (with_reducible repeat (first | refine blk_drewN ?_ _ | refine blk_drew ?_ | refine blk_alloc ?_ _)); refine blk_put (cs := #[.int .i64 ((rd_T34 t292 x6_2).f0), .string ((rd_T34 t292 x6_2).f1), .int .i64 0]) ?_ 2 _ rfl; (with_reducible repeat (first | refine blk_drewN ?_ _ | refine blk_drew ?_ | refine blk_alloc ?_ _)); refine blk_put (cs := #[.int .i64 ((rd_T34 t292 x6_2).f0), .string (⟨#[]⟩ : ByteArray), .int .i64 0]) ?_ 1 _ rfl; (with_reducible repeat (first | refine blk_drewN ?_ _ | refine blk_drew ?_ | refine blk_alloc ?_ _)); refine blk_put (cs := #[.int .i64 0, .string (⟨#[]⟩ : ByteArray), .int .i64 0]) ?_ 0 _ rfl; (with_reducible repeat (first | refine blk_drewN ?_ _ | refine blk_drew ?_ | refine blk_alloc ?_ _)); exact BK299.out⟩, ⟨by repeat (first | (with_reducible first | exact HB.out | apply below_alloc | apply pw_below_drewN | apply below_drew1 | refine below_set ?_ GE299.out) | exact HB.out)⟩⟩
                          · rw [if_neg c27] at H
                            have c27b0 : decide (6 < ((rd_T34 t292 x6_2).f0)) = false := decide_eq_false c27
                            clear c27
                            by_cases c29 : ((rd_T34 t292 x6_2).f2) < 0
                            · rw [if_pos c29] at H
                              have c29b0 : decide (((rd_T34 t292 x6_2).f2) < 0) = true := decide_eq_true c29
                              clear c29
                              have H' := Aside0.mk H
                              clear H
                              have hcz30_0 : w23.cell? ⟨gb299, 0, none⟩ = some (.int .i64 0) := (blk_cell BK299.out 0).trans rfl
                              have hcz30_1 : w23.cell? ⟨gb299, 1, none⟩ = some (.string (⟨#[]⟩ : ByteArray)) := (blk_cell BK299.out 1).trans rfl
                              have hcz30_2 : w23.cell? ⟨gb299, 2, none⟩ = some (.int .i64 0) := (blk_cell BK299.out 2).trans rfl
                              have hfz30_0 := blk_frozen BK299.out 0
                              have hfz30_1 := blk_frozen BK299.out 1
                              have hfz30_2 := blk_frozen BK299.out 2
                              go_wp2
                              repeat (go_quiet (fail); try go_wp2)
                              go_meet
                              case rel => exact ⟨_, (true), (by first | rfl | (simp; done) | (simp [*]; done)), H', ⟨by have := HJ5.out; have := HK2.out; first | omega | exact Nat.le_refl _⟩, ⟨by (with_reducible repeat (first | apply Kd.R_alloc | apply Kd.R_drewN | apply Kd.R_drew)); exact Kd.R_mono (Kd.R_far (p := ⟨gb299, 2, none⟩) (Kd.R_far (p := ⟨gb299, 1, none⟩) (Kd.R_far (p := ⟨gb299, 0, none⟩) (Kd.R_mono HO_3.out (fun k_ hk => (⟨hk, hk.2⟩ : _ ∧ k_ ≠ gb299))) (fun _ hk => hk.2) (.int .i64 ((rd_T34 t292 x6_2).f0))) (fun _ hk => hk.2) (.string ((rd_T34 t292 x6_2).f1))) (fun _ hk => hk.2) (.int .i64 ((rd_T34 t292 x6_2).f2))) (fun _ hk => hk.1.2)⟩, ⟨by (with_reducible repeat (first | refine blk_drewN ?_ _ | refine blk_drew ?_ | refine blk_alloc ?_ _)); refine blk_put (cs := #[.int .i64 ((rd_T34 t292 x6_2).f0), .string ((rd_T34 t292 x6_2).f1), .int .i64 0]) ?_ 2 _ rfl; (with_reducible repeat (first | refine blk_drewN ?_ _ | refine blk_drew ?_ | refine blk_alloc ?_ _)); refine blk_put (cs := #[.int .i64 ((rd_T34 t292 x6_2).f0), .string (⟨#[]⟩ : ByteArray), .int .i64 0]) ?_ 1 _ rfl; (with_reducible repeat (first | refine blk_drewN ?_ _ | refine blk_drew ?_ | refine blk_alloc ?_ _)); refine blk_put (cs := #[.int .i64 0, .string (⟨#[]⟩ : ByteArray), .int .i64 0]) ?_ 0 _ rfl; (with_reducible repeat (first | refine blk_drewN ?_ _ | refine blk_drew ?_ | refine blk_alloc ?_ _)); exact BK299.out⟩, ⟨by repeat (first | (with_reducible first | exact HB.out | apply below_alloc | apply pw_below_drewN | apply below_drew1 | refine below_set ?_ GE299.out) | exact HB.out)⟩⟩
                            · rw [if_neg c29] at H
                              have c29b0 : decide (((rd_T34 t292 x6_2).f2) < 0) = false := decide_eq_false c29
                              clear c29
                              obtain ⟨ji31, hji31⟩ : ∃ j_ : Int, (wrap64 (x6_2 + 1)) = j_ := ⟨_, rfl⟩
                              replace H : (if 0 ≤ (ji31) then (if (ji31) < (t292.length : Int) then (if ((rd_T34 t292 x6_2).f2) ≥ ((rd_T34 t292 (ji31)).f2) then (freshetlaw13_LexPlaces.j2 k2 a0 t292 x6_2 true ((rd_T34 t292 x6_2).f0) ((rd_T34 t292 x6_2).f1) ((rd_T34 t292 x6_2).f2)) else (if ((rd_T34 t292 x6_2).f1).toList = ([] : List UInt8) then (freshetlaw13_LexPlaces.j2 k2 a0 t292 x6_2 (((rd_T34 t292 x6_2).f0) != 5) ((rd_T34 t292 x6_2).f0) ((rd_T34 t292 x6_2).f1) ((rd_T34 t292 x6_2).f2)) else (freshetlaw13_LexPlaces.j2 k2 a0 t292 x6_2 false ((rd_T34 t292 x6_2).f0) ((rd_T34 t292 x6_2).f1) ((rd_T34 t292 x6_2).f2)))) else (none)) else (none)) = some r := by first | (rw [hji31] at H; exact H) | (simp only [hji31] at H ⊢; exact H)
                              have hji31w : (IntKind.i64.wrap (x6_2 + 1)) = ji31 := (i64_w _).trans hji31
                              by_cases c32 : 0 ≤ (ji31)
                              · rw [if_pos c32] at H
                                have c32b0 : decide (0 ≤ (ji31)) = true := decide_eq_true c32
                                clear c32
                                by_cases c33 : (ji31) < (t292.length : Int)
                                · rw [if_pos c33] at H
                                  have c33b0 : decide ((ji31) < (t292.length : Int)) = true := decide_eq_true c33
                                  clear c33
                                  by_cases c34 : ((rd_T34 t292 x6_2).f2) ≥ ((rd_T34 t292 (ji31)).f2)
                                  · rw [if_pos c34] at H
                                    have c34b0 : decide (((rd_T34 t292 (ji31)).f2) ≤ ((rd_T34 t292 x6_2).f2)) = true := decide_eq_true c34
                                    clear c34
                                    have H' := Aside0.mk H
                                    clear H
                                    have hcz35_0 : w23.cell? ⟨gb299, 0, none⟩ = some (.int .i64 0) := (blk_cell BK299.out 0).trans rfl
                                    have hcz35_1 : w23.cell? ⟨gb299, 1, none⟩ = some (.string (⟨#[]⟩ : ByteArray)) := (blk_cell BK299.out 1).trans rfl
                                    have hcz35_2 : w23.cell? ⟨gb299, 2, none⟩ = some (.int .i64 0) := (blk_cell BK299.out 2).trans rfl
                                    have hfz35_0 := blk_frozen BK299.out 0
                                    have hfz35_1 := blk_frozen BK299.out 1
                                    have hfz35_2 := blk_frozen BK299.out 2
                                    have p300 : 0 ≤ ((ji31) : Int) := of_decide_eq_true (by first | (with_reducible assumption) | assumption)
                                    have q300 : (ji31) < (t292.length : Int) := of_decide_eq_true (by first | (with_reducible assumption) | assumption)
                                    obtain ⟨ad300, e300, hx300_0, hx300_1, hx300_2⟩ := at_T34 (Kd.R_reads' HO_3.out).2.2 (ji31) p300 q300
                                    obtain rfl : ad298 = ad300 := (by injection e300)
                                    have hn300_0 : ad298.block ≠ gb299 := (by first | exact (HO_3.out.1 _ rfl).2 | exact HO_3.out.1 _ rfl)
                                    have hn300_1 : ad298.block ≠ gb299 := (by first | exact (HO_3.out.1 _ rfl).2 | exact HO_3.out.1 _ rfl)
                                    have hn300_2 : ad298.block ≠ gb299 := (by first | exact (HO_3.out.1 _ rfl).2 | exact HO_3.out.1 _ rfl)
                                    replace hx300_0 := (cell_far (p := ⟨gb299, 0, none⟩) (by first | (rw [add_block]; exact hn300_0) | (show (Addr.add _ _).block ≠ _; rw [add_block]; exact hn300_0) | exact hn300_0) (.int .i64 ((rd_T34 t292 x6_2).f0))).trans hx300_0
                                    replace hx300_1 := (cell_far (p := ⟨gb299, 0, none⟩) (by first | (rw [add_block]; exact hn300_0) | (show (Addr.add _ _).block ≠ _; rw [add_block]; exact hn300_0) | exact hn300_0) (.int .i64 ((rd_T34 t292 x6_2).f0))).trans hx300_1
                                    replace hx300_2 := (cell_far (p := ⟨gb299, 0, none⟩) (by first | (rw [add_block]; exact hn300_0) | (show (Addr.add _ _).block ≠ _; rw [add_block]; exact hn300_0) | exact hn300_0) (.int .i64 ((rd_T34 t292 x6_2).f0))).trans hx300_2
                                    replace hx300_0 := (cell_far (p := ⟨gb299, 1, none⟩) (by first | (rw [add_block]; exact hn300_1) | (show (Addr.add _ _).block ≠ _; rw [add_block]; exact hn300_1) | exact hn300_1) (.string ((rd_T34 t292 x6_2).f1))).trans hx300_0
                                    replace hx300_1 := (cell_far (p := ⟨gb299, 1, none⟩) (by first | (rw [add_block]; exact hn300_1) | (show (Addr.add _ _).block ≠ _; rw [add_block]; exact hn300_1) | exact hn300_1) (.string ((rd_T34 t292 x6_2).f1))).trans hx300_1
                                    replace hx300_2 := (cell_far (p := ⟨gb299, 1, none⟩) (by first | (rw [add_block]; exact hn300_1) | (show (Addr.add _ _).block ≠ _; rw [add_block]; exact hn300_1) | exact hn300_1) (.string ((rd_T34 t292 x6_2).f1))).trans hx300_2
                                    replace hx300_0 := (cell_far (p := ⟨gb299, 2, none⟩) (by first | (rw [add_block]; exact hn300_2) | (show (Addr.add _ _).block ≠ _; rw [add_block]; exact hn300_2) | exact hn300_2) (.int .i64 ((rd_T34 t292 x6_2).f2))).trans hx300_0
                                    replace hx300_1 := (cell_far (p := ⟨gb299, 2, none⟩) (by first | (rw [add_block]; exact hn300_2) | (show (Addr.add _ _).block ≠ _; rw [add_block]; exact hn300_2) | exact hn300_2) (.int .i64 ((rd_T34 t292 x6_2).f2))).trans hx300_1
                                    replace hx300_2 := (cell_far (p := ⟨gb299, 2, none⟩) (by first | (rw [add_block]; exact hn300_2) | (show (Addr.add _ _).block ≠ _; rw [add_block]; exact hn300_2) | exact hn300_2) (.int .i64 ((rd_T34 t292 x6_2).f2))).trans hx300_2
                                    (try have hy300_0 := fun (n_ : Nat) => (show (((((w23.drewN n_).setCell ⟨gb299, 0, none⟩ (.int .i64 ((rd_T34 t292 x6_2).f0))).setCell ⟨gb299, 1, none⟩ (.string ((rd_T34 t292 x6_2).f1))).setCell ⟨gb299, 2, none⟩ (.int .i64 ((rd_T34 t292 x6_2).f2)))).cell? _ = some _ from hx300_0))
                                    (try have hy300_1 := fun (n_ : Nat) => (show (((((w23.drewN n_).setCell ⟨gb299, 0, none⟩ (.int .i64 ((rd_T34 t292 x6_2).f0))).setCell ⟨gb299, 1, none⟩ (.string ((rd_T34 t292 x6_2).f1))).setCell ⟨gb299, 2, none⟩ (.int .i64 ((rd_T34 t292 x6_2).f2)))).cell? _ = some _ from hx300_1))
                                    (try have hy300_2 := fun (n_ : Nat) => (show (((((w23.drewN n_).setCell ⟨gb299, 0, none⟩ (.int .i64 ((rd_T34 t292 x6_2).f0))).setCell ⟨gb299, 1, none⟩ (.string ((rd_T34 t292 x6_2).f1))).setCell ⟨gb299, 2, none⟩ (.int .i64 ((rd_T34 t292 x6_2).f2)))).cell? _ = some _ from hx300_2))
                                    clear hn300_0
                                    clear hn300_1
                                    clear hn300_2
                                    replace p300 := eq_true p300
                                    replace q300 := eq_true q300
                                    go_wp2
                                    repeat (go_quiet (fail); try go_wp2)
                                    go_meet
                                    case rel => exact ⟨_, (true), (by first | rfl | (simp; done) | (simp [*]; done)), H', ⟨by have := HJ5.out; have := HK2.out; first | omega | exact Nat.le_refl _⟩, ⟨by (with_reducible repeat (first | apply Kd.R_alloc | apply Kd.R_drewN | apply Kd.R_drew)); exact Kd.R_mono (Kd.R_far (p := ⟨gb299, 2, none⟩) (Kd.R_far (p := ⟨gb299, 1, none⟩) (Kd.R_far (p := ⟨gb299, 0, none⟩) (Kd.R_mono HO_3.out (fun k_ hk => (⟨hk, hk.2⟩ : _ ∧ k_ ≠ gb299))) (fun _ hk => hk.2) (.int .i64 ((rd_T34 t292 x6_2).f0))) (fun _ hk => hk.2) (.string ((rd_T34 t292 x6_2).f1))) (fun _ hk => hk.2) (.int .i64 ((rd_T34 t292 x6_2).f2))) (fun _ hk => hk.1.2)⟩, ⟨by (with_reducible repeat (first | refine blk_drewN ?_ _ | refine blk_drew ?_ | refine blk_alloc ?_ _)); refine blk_put (cs := #[.int .i64 ((rd_T34 t292 x6_2).f0), .string ((rd_T34 t292 x6_2).f1), .int .i64 0]) ?_ 2 _ rfl; (with_reducible repeat (first | refine blk_drewN ?_ _ | refine blk_drew ?_ | refine blk_alloc ?_ _)); refine blk_put (cs := #[.int .i64 ((rd_T34 t292 x6_2).f0), .string (⟨#[]⟩ : ByteArray), .int .i64 0]) ?_ 1 _ rfl; (with_reducible repeat (first | refine blk_drewN ?_ _ | refine blk_drew ?_ | refine blk_alloc ?_ _)); refine blk_put (cs := #[.int .i64 0, .string (⟨#[]⟩ : ByteArray), .int .i64 0]) ?_ 0 _ rfl; (with_reducible repeat (first | refine blk_drewN ?_ _ | refine blk_drew ?_ | refine blk_alloc ?_ _)); exact BK299.out⟩, ⟨by repeat (first | (with_reducible first | exact HB.out | apply below_alloc | apply pw_below_drewN | apply below_drew1 | refine below_set ?_ GE299.out) | exact HB.out)⟩⟩
                                  · rw [if_neg c34] at H
                                    have c34b0 : decide (((rd_T34 t292 (ji31)).f2) ≤ ((rd_T34 t292 x6_2).f2)) = false := decide_eq_false c34
                                    clear c34
                                    by_cases c36 : ((rd_T34 t292 x6_2).f1).toList = ([] : List UInt8)
                                    · rw [if_pos c36] at H
                                      have c36b0 : (((rd_T34 t292 x6_2).f1).toList == ([] : List UInt8)) = true := beq_iff_eq.mpr c36
                                      have c36b1 : (((rd_T34 t292 x6_2).f1).toList != ([] : List UInt8)) = false := bne_eq_false_iff_eq.mpr c36
                                      clear c36
                                      have H' := Aside0.mk H
                                      clear H
                                      have hcz37_0 : w23.cell? ⟨gb299, 0, none⟩ = some (.int .i64 0) := (blk_cell BK299.out 0).trans rfl
                                      have hcz37_1 : w23.cell? ⟨gb299, 1, none⟩ = some (.string (⟨#[]⟩ : ByteArray)) := (blk_cell BK299.out 1).trans rfl
                                      have hcz37_2 : w23.cell? ⟨gb299, 2, none⟩ = some (.int .i64 0) := (blk_cell BK299.out 2).trans rfl
                                      have hfz37_0 := blk_frozen BK299.out 0
                                      have hfz37_1 := blk_frozen BK299.out 1
                                      have hfz37_2 := blk_frozen BK299.out 2
                                      have p300 : 0 ≤ ((ji31) : Int) := of_decide_eq_true (by first | (with_reducible assumption) | assumption)
                                      have q300 : (ji31) < (t292.length : Int) := of_decide_eq_true (by first | (with_reducible assumption) | assumption)
                                      obtain ⟨ad300, e300, hx300_0, hx300_1, hx300_2⟩ := at_T34 (Kd.R_reads' HO_3.out).2.2 (ji31) p300 q300
                                      obtain rfl : ad298 = ad300 := (by injection e300)
                                      have hn300_0 : ad298.block ≠ gb299 := (by first | exact (HO_3.out.1 _ rfl).2 | exact HO_3.out.1 _ rfl)
                                      have hn300_1 : ad298.block ≠ gb299 := (by first | exact (HO_3.out.1 _ rfl).2 | exact HO_3.out.1 _ rfl)
                                      have hn300_2 : ad298.block ≠ gb299 := (by first | exact (HO_3.out.1 _ rfl).2 | exact HO_3.out.1 _ rfl)
                                      replace hx300_0 := (cell_far (p := ⟨gb299, 0, none⟩) (by first | (rw [add_block]; exact hn300_0) | (show (Addr.add _ _).block ≠ _; rw [add_block]; exact hn300_0) | exact hn300_0) (.int .i64 ((rd_T34 t292 x6_2).f0))).trans hx300_0
                                      replace hx300_1 := (cell_far (p := ⟨gb299, 0, none⟩) (by first | (rw [add_block]; exact hn300_0) | (show (Addr.add _ _).block ≠ _; rw [add_block]; exact hn300_0) | exact hn300_0) (.int .i64 ((rd_T34 t292 x6_2).f0))).trans hx300_1
                                      replace hx300_2 := (cell_far (p := ⟨gb299, 0, none⟩) (by first | (rw [add_block]; exact hn300_0) | (show (Addr.add _ _).block ≠ _; rw [add_block]; exact hn300_0) | exact hn300_0) (.int .i64 ((rd_T34 t292 x6_2).f0))).trans hx300_2
                                      replace hx300_0 := (cell_far (p := ⟨gb299, 1, none⟩) (by first | (rw [add_block]; exact hn300_1) | (show (Addr.add _ _).block ≠ _; rw [add_block]; exact hn300_1) | exact hn300_1) (.string ((rd_T34 t292 x6_2).f1))).trans hx300_0
                                      replace hx300_1 := (cell_far (p := ⟨gb299, 1, none⟩) (by first | (rw [add_block]; exact hn300_1) | (show (Addr.add _ _).block ≠ _; rw [add_block]; exact hn300_1) | exact hn300_1) (.string ((rd_T34 t292 x6_2).f1))).trans hx300_1
                                      replace hx300_2 := (cell_far (p := ⟨gb299, 1, none⟩) (by first | (rw [add_block]; exact hn300_1) | (show (Addr.add _ _).block ≠ _; rw [add_block]; exact hn300_1) | exact hn300_1) (.string ((rd_T34 t292 x6_2).f1))).trans hx300_2
                                      replace hx300_0 := (cell_far (p := ⟨gb299, 2, none⟩) (by first | (rw [add_block]; exact hn300_2) | (show (Addr.add _ _).block ≠ _; rw [add_block]; exact hn300_2) | exact hn300_2) (.int .i64 ((rd_T34 t292 x6_2).f2))).trans hx300_0
                                      replace hx300_1 := (cell_far (p := ⟨gb299, 2, none⟩) (by first | (rw [add_block]; exact hn300_2) | (show (Addr.add _ _).block ≠ _; rw [add_block]; exact hn300_2) | exact hn300_2) (.int .i64 ((rd_T34 t292 x6_2).f2))).trans hx300_1
                                      replace hx300_2 := (cell_far (p := ⟨gb299, 2, none⟩) (by first | (rw [add_block]; exact hn300_2) | (show (Addr.add _ _).block ≠ _; rw [add_block]; exact hn300_2) | exact hn300_2) (.int .i64 ((rd_T34 t292 x6_2).f2))).trans hx300_2
                                      (try have hy300_0 := fun (n_ : Nat) => (show (((((w23.drewN n_).setCell ⟨gb299, 0, none⟩ (.int .i64 ((rd_T34 t292 x6_2).f0))).setCell ⟨gb299, 1, none⟩ (.string ((rd_T34 t292 x6_2).f1))).setCell ⟨gb299, 2, none⟩ (.int .i64 ((rd_T34 t292 x6_2).f2)))).cell? _ = some _ from hx300_0))
                                      (try have hy300_1 := fun (n_ : Nat) => (show (((((w23.drewN n_).setCell ⟨gb299, 0, none⟩ (.int .i64 ((rd_T34 t292 x6_2).f0))).setCell ⟨gb299, 1, none⟩ (.string ((rd_T34 t292 x6_2).f1))).setCell ⟨gb299, 2, none⟩ (.int .i64 ((rd_T34 t292 x6_2).f2)))).cell? _ = some _ from hx300_1))
                                      (try have hy300_2 := fun (n_ : Nat) => (show (((((w23.drewN n_).setCell ⟨gb299, 0, none⟩ (.int .i64 ((rd_T34 t292 x6_2).f0))).setCell ⟨gb299, 1, none⟩ (.string ((rd_T34 t292 x6_2).f1))).setCell ⟨gb299, 2, none⟩ (.int .i64 ((rd_T34 t292 x6_2).f2)))).cell? _ = some _ from hx300_2))
                                      clear hn300_0
                                      clear hn300_1
                                      clear hn300_2
                                      replace p300 := eq_true p300
                                      replace q300 := eq_true q300
                                      go_wp2
                                      repeat (go_quiet (fail); try go_wp2)
                                      go_meet
                                      case rel => exact ⟨_, ((((rd_T34 t292 x6_2).f0) != 5)), (by first | rfl | (simp; done) | (simp [*]; done)), H', ⟨by have := HJ5.out; have := HK2.out; first | omega | exact Nat.le_refl _⟩, ⟨by (with_reducible repeat (first | apply Kd.R_alloc | apply Kd.R_drewN | apply Kd.R_drew)); exact Kd.R_mono (Kd.R_far (p := ⟨gb299, 2, none⟩) (Kd.R_far (p := ⟨gb299, 1, none⟩) (Kd.R_far (p := ⟨gb299, 0, none⟩) (Kd.R_mono HO_3.out (fun k_ hk => (⟨hk, hk.2⟩ : _ ∧ k_ ≠ gb299))) (fun _ hk => hk.2) (.int .i64 ((rd_T34 t292 x6_2).f0))) (fun _ hk => hk.2) (.string ((rd_T34 t292 x6_2).f1))) (fun _ hk => hk.2) (.int .i64 ((rd_T34 t292 x6_2).f2))) (fun _ hk => hk.1.2)⟩, ⟨by (with_reducible repeat (first | refine blk_drewN ?_ _ | refine blk_drew ?_ | refine blk_alloc ?_ _)); refine blk_put (cs := #[.int .i64 ((rd_T34 t292 x6_2).f0), .string ((rd_T34 t292 x6_2).f1), .int .i64 0]) ?_ 2 _ rfl; (with_reducible repeat (first | refine blk_drewN ?_ _ | refine blk_drew ?_ | refine blk_alloc ?_ _)); refine blk_put (cs := #[.int .i64 ((rd_T34 t292 x6_2).f0), .string (⟨#[]⟩ : ByteArray), .int .i64 0]) ?_ 1 _ rfl; (with_reducible repeat (first | refine blk_drewN ?_ _ | refine blk_drew ?_ | refine blk_alloc ?_ _)); refine blk_put (cs := #[.int .i64 0, .string (⟨#[]⟩ : ByteArray), .int .i64 0]) ?_ 0 _ rfl; (with_reducible repeat (first | refine blk_drewN ?_ _ | refine blk_drew ?_ | refine blk_alloc ?_ _)); exact BK299.out⟩, ⟨by repeat (first | (with_reducible first | exact HB.out | apply below_alloc | apply pw_below_drewN | apply below_drew1 | refine below_set ?_ GE299.out) | exact HB.out)⟩⟩
                                    · rw [if_neg c36] at H
                                      have c36b0 : (((rd_T34 t292 x6_2).f1).toList == ([] : List UInt8)) = false := beq_eq_false_iff_ne.mpr c36
                                      have c36b1 : (((rd_T34 t292 x6_2).f1).toList != ([] : List UInt8)) = true := bne_iff_ne.mpr c36
                                      have H' := Aside0.mk H
                                      clear H
                                      have hcz38_0 : w23.cell? ⟨gb299, 0, none⟩ = some (.int .i64 0) := (blk_cell BK299.out 0).trans rfl
                                      have hcz38_1 : w23.cell? ⟨gb299, 1, none⟩ = some (.string (⟨#[]⟩ : ByteArray)) := (blk_cell BK299.out 1).trans rfl
                                      have hcz38_2 : w23.cell? ⟨gb299, 2, none⟩ = some (.int .i64 0) := (blk_cell BK299.out 2).trans rfl
                                      have hfz38_0 := blk_frozen BK299.out 0
                                      have hfz38_1 := blk_frozen BK299.out 1
                                      have hfz38_2 := blk_frozen BK299.out 2
                                      have p300 : 0 ≤ ((ji31) : Int) := of_decide_eq_true (by first | (with_reducible assumption) | assumption)
                                      have q300 : (ji31) < (t292.length : Int) := of_decide_eq_true (by first | (with_reducible assumption) | assumption)
                                      obtain ⟨ad300, e300, hx300_0, hx300_1, hx300_2⟩ := at_T34 (Kd.R_reads' HO_3.out).2.2 (ji31) p300 q300
                                      obtain rfl : ad298 = ad300 := (by injection e300)
                                      have hn300_0 : ad298.block ≠ gb299 := (by first | exact (HO_3.out.1 _ rfl).2 | exact HO_3.out.1 _ rfl)
                                      have hn300_1 : ad298.block ≠ gb299 := (by first | exact (HO_3.out.1 _ rfl).2 | exact HO_3.out.1 _ rfl)
                                      have hn300_2 : ad298.block ≠ gb299 := (by first | exact (HO_3.out.1 _ rfl).2 | exact HO_3.out.1 _ rfl)
                                      replace hx300_0 := (cell_far (p := ⟨gb299, 0, none⟩) (by first | (rw [add_block]; exact hn300_0) | (show (Addr.add _ _).block ≠ _; rw [add_block]; exact hn300_0) | exact hn300_0) (.int .i64 ((rd_T34 t292 x6_2).f0))).trans hx300_0
                                      replace hx300_1 := (cell_far (p := ⟨gb299, 0, none⟩) (by first | (rw [add_block]; exact hn300_0) | (show (Addr.add _ _).block ≠ _; rw [add_block]; exact hn300_0) | exact hn300_0) (.int .i64 ((rd_T34 t292 x6_2).f0))).trans hx300_1
                                      replace hx300_2 := (cell_far (p := ⟨gb299, 0, none⟩) (by first | (rw [add_block]; exact hn300_0) | (show (Addr.add _ _).block ≠ _; rw [add_block]; exact hn300_0) | exact hn300_0) (.int .i64 ((rd_T34 t292 x6_2).f0))).trans hx300_2
                                      replace hx300_0 := (cell_far (p := ⟨gb299, 1, none⟩) (by first | (rw [add_block]; exact hn300_1) | (show (Addr.add _ _).block ≠ _; rw [add_block]; exact hn300_1) | exact hn300_1) (.string ((rd_T34 t292 x6_2).f1))).trans hx300_0
                                      replace hx300_1 := (cell_far (p := ⟨gb299, 1, none⟩) (by first | (rw [add_block]; exact hn300_1) | (show (Addr.add _ _).block ≠ _; rw [add_block]; exact hn300_1) | exact hn300_1) (.string ((rd_T34 t292 x6_2).f1))).trans hx300_1
                                      replace hx300_2 := (cell_far (p := ⟨gb299, 1, none⟩) (by first | (rw [add_block]; exact hn300_1) | (show (Addr.add _ _).block ≠ _; rw [add_block]; exact hn300_1) | exact hn300_1) (.string ((rd_T34 t292 x6_2).f1))).trans hx300_2
                                      replace hx300_0 := (cell_far (p := ⟨gb299, 2, none⟩) (by first | (rw [add_block]; exact hn300_2) | (show (Addr.add _ _).block ≠ _; rw [add_block]; exact hn300_2) | exact hn300_2) (.int .i64 ((rd_T34 t292 x6_2).f2))).trans hx300_0
                                      replace hx300_1 := (cell_far (p := ⟨gb299, 2, none⟩) (by first | (rw [add_block]; exact hn300_2) | (show (Addr.add _ _).block ≠ _; rw [add_block]; exact hn300_2) | exact hn300_2) (.int .i64 ((rd_T34 t292 x6_2).f2))).trans hx300_1
                                      replace hx300_2 := (cell_far (p := ⟨gb299, 2, none⟩) (by first | (rw [add_block]; exact hn300_2) | (show (Addr.add _ _).block ≠ _; rw [add_block]; exact hn300_2) | exact hn300_2) (.int .i64 ((rd_T34 t292 x6_2).f2))).trans hx300_2
                                      (try have hy300_0 := fun (n_ : Nat) => (show (((((w23.drewN n_).setCell ⟨gb299, 0, none⟩ (.int .i64 ((rd_T34 t292 x6_2).f0))).setCell ⟨gb299, 1, none⟩ (.string ((rd_T34 t292 x6_2).f1))).setCell ⟨gb299, 2, none⟩ (.int .i64 ((rd_T34 t292 x6_2).f2)))).cell? _ = some _ from hx300_0))
                                      (try have hy300_1 := fun (n_ : Nat) => (show (((((w23.drewN n_).setCell ⟨gb299, 0, none⟩ (.int .i64 ((rd_T34 t292 x6_2).f0))).setCell ⟨gb299, 1, none⟩ (.string ((rd_T34 t292 x6_2).f1))).setCell ⟨gb299, 2, none⟩ (.int .i64 ((rd_T34 t292 x6_2).f2)))).cell? _ = some _ from hx300_1))
                                      (try have hy300_2 := fun (n_ : Nat) => (show (((((w23.drewN n_).setCell ⟨gb299, 0, none⟩ (.int .i64 ((rd_T34 t292 x6_2).f0))).setCell ⟨gb299, 1, none⟩ (.string ((rd_T34 t292 x6_2).f1))).setCell ⟨gb299, 2, none⟩ (.int .i64 ((rd_T34 t292 x6_2).f2)))).cell? _ = some _ from hx300_2))
                                      clear hn300_0
                                      clear hn300_1
                                      clear hn300_2
                                      replace p300 := eq_true p300
                                      replace q300 := eq_true q300
                                      go_wp2
                                      repeat (go_quiet (fail); try go_wp2)
                                      go_meet
                                      case rel => exact ⟨_, (false), (by first | rfl | (simp; done) | (simp [*]; done)), H', ⟨by have := HJ5.out; have := HK2.out; first | omega | exact Nat.le_refl _⟩, ⟨by (with_reducible repeat (first | apply Kd.R_alloc | apply Kd.R_drewN | apply Kd.R_drew)); exact Kd.R_mono (Kd.R_far (p := ⟨gb299, 2, none⟩) (Kd.R_far (p := ⟨gb299, 1, none⟩) (Kd.R_far (p := ⟨gb299, 0, none⟩) (Kd.R_mono HO_3.out (fun k_ hk => (⟨hk, hk.2⟩ : _ ∧ k_ ≠ gb299))) (fun _ hk => hk.2) (.int .i64 ((rd_T34 t292 x6_2).f0))) (fun _ hk => hk.2) (.string ((rd_T34 t292 x6_2).f1))) (fun _ hk => hk.2) (.int .i64 ((rd_T34 t292 x6_2).f2))) (fun _ hk => hk.1.2)⟩, ⟨by (with_reducible repeat (first | refine blk_drewN ?_ _ | refine blk_drew ?_ | refine blk_alloc ?_ _)); refine blk_put (cs := #[.int .i64 ((rd_T34 t292 x6_2).f0), .string ((rd_T34 t292 x6_2).f1), .int .i64 0]) ?_ 2 _ rfl; (with_reducible repeat (first | refine blk_drewN ?_ _ | refine blk_drew ?_ | refine blk_alloc ?_ _)); refine blk_put (cs := #[.int .i64 ((rd_T34 t292 x6_2).f0), .string (⟨#[]⟩ : ByteArray), .int .i64 0]) ?_ 1 _ rfl; (with_reducible repeat (first | refine blk_drewN ?_ _ | refine blk_drew ?_ | refine blk_alloc ?_ _)); refine blk_put (cs := #[.int .i64 0, .string (⟨#[]⟩ : ByteArray), .int .i64 0]) ?_ 0 _ rfl; (with_reducible repeat (first | refine blk_drewN ?_ _ | refine blk_drew ?_ | refine blk_alloc ?_ _)); exact BK299.out⟩, ⟨by repeat (first | (with_reducible first | exact HB.out | apply below_alloc | apply pw_below_drewN | apply below_drew1 | refine below_set ?_ GE299.out) | exact HB.out)⟩⟩
                                · rw [if_neg c33] at H
                                  exact absurd H (by simp)
                              · rw [if_neg c32] at H
                                exact absurd H (by simp)
                      case rest =>
                        clear HC21
                        try clear c1
                        try clear c2
                        try clear p2
                        try clear q2
                        try clear hx2
                        try clear c3
                        try clear p3
                        try clear q3
                        try clear hx3
                        try clear c5
                        try clear c5b0
                        try clear c5b1
                        try clear p6
                        try clear c8
                        try clear c9
                        try clear c9b0
                        try clear c9b1
                        try clear c12
                        try clear c12b0
                        try clear c13
                        try clear c13b0
                        try clear c14
                        try clear c14b0
                        try clear c17
                        try clear c18
                        try clear c18b0
                        try clear c19
                        try clear c19b0
                        try clear c20
                        try clear c20b0
                        try clear c25
                        try clear c25b0
                        try clear c27
                        try clear c27b0
                        try clear c29
                        try clear c29b0
                        try clear p29
                        try clear q29
                        try clear hx29
                        try clear p30
                        try clear q30
                        try clear hx30
                        try clear c32
                        try clear c32b0
                        try clear c33
                        try clear c33b0
                        try clear c34
                        try clear c34b0
                        try clear c36
                        try clear c36b0
                        try clear c36b1
                        try clear hcz24_0
                        try clear hcz24_1
                        try clear hcz24_2
                        try clear hcz26_0
                        try clear hcz26_1
                        try clear hcz26_2
                        try clear hcz28_0
                        try clear hcz28_1
                        try clear hcz28_2
                        try clear hcz30_0
                        try clear hcz30_1
                        try clear hcz30_2
                        try clear hcz35_0
                        try clear hcz35_1
                        try clear hcz35_2
                        try clear hcz37_0
                        try clear hcz37_1
                        try clear hcz37_2
                        try clear hcz38_0
                        try clear hcz38_1
                        try clear hcz38_2
                        try clear hfz24_0
                        try clear hfz24_1
                        try clear hfz24_2
                        try clear hfz26_0
                        try clear hfz26_1
                        try clear hfz26_2
                        try clear hfz28_0
                        try clear hfz28_1
                        try clear hfz28_2
                        try clear hfz30_0
                        try clear hfz30_1
                        try clear hfz30_2
                        try clear hfz35_0
                        try clear hfz35_1
                        try clear hfz35_2
                        try clear hfz37_0
                        try clear hfz37_1
                        try clear hfz37_2
                        try clear hfz38_0
                        try clear hfz38_1
                        try clear hfz38_2
                        try clear hx297_0
                        try clear hx297_1
                        try clear hx297_2
                        try clear hx298_0
                        try clear hx298_1
                        try clear hx298_2
                        try clear hx300_0
                        try clear hx300_1
                        try clear hx300_2
                        try clear p2
                        try clear p297
                        try clear p298
                        try clear p300
                        try clear p6
                        try clear q2
                        try clear q297
                        try clear q298
                        try clear q300
                        obtain ⟨kq, x86_20, rfl, HA, HJ20, HO_3, BK299, HB⟩ := hcut
                        cases kq with
                        | zero => exact absurd HA.out (by simp [freshetlaw13_LexPlaces.j2])
                        | succ kj20 =>
                          have H := HA.out
                          clear HA
                          simp only [freshetlaw13_LexPlaces.j2] at H
                          by_cases c39 : x86_20 = true
                          · subst c39
                            have H1 : (some false) = some r := by rw [if_pos rfl] at H; exact H
                            clear H
                            have H := H1
                            clear H1
                            obtain rfl := Option.some.inj H
                            go_wp2
                            repeat (go_quiet (fail); try go_wp2)
                            go_ret
                            exact ⟨by first | rfl | (simp [errW_none, errW_some] <;> rfl) | (simp [*, errW_none, errW_some] <;> rfl), by repeat (first | (with_reducible first | exact HB.out | apply below_alloc | apply pw_below_drewN | apply below_drew1 | refine below_set ?_ GE299.out) | exact HB.out)⟩
                          · replace c39 := Bool.eq_false_iff.mpr c39
                            subst c39
                            have H1 : (if ((rd_T34 t292 x6_2).f0) = 6 then (if (wrap64 (((rd_T34 t292 x6_2).f2) + (((rd_T34 t292 x6_2).f1).size : Int))) > (a0.size : Int) then (freshetlaw13_LexPlaces.j3 kj20 a0 t292 x6_2 true ((rd_T34 t292 x6_2).f0) ((rd_T34 t292 x6_2).f1) ((rd_T34 t292 x6_2).f2)) else (if 0 ≤ ((rd_T34 t292 x6_2).f2) then (if ((rd_T34 t292 x6_2).f2) ≤ (wrap64 (((rd_T34 t292 x6_2).f2) + (((rd_T34 t292 x6_2).f1).size : Int))) then (if (wrap64 (((rd_T34 t292 x6_2).f2) + (((rd_T34 t292 x6_2).f1).size : Int))) ≤ (a0.size : Int) then (freshetlaw13_LexPlaces.j3 kj20 a0 t292 x6_2 ((a0.extract (((rd_T34 t292 x6_2).f2) : Int).toNat ((wrap64 (((rd_T34 t292 x6_2).f2) + (((rd_T34 t292 x6_2).f1).size : Int))) : Int).toNat).toList != ((rd_T34 t292 x6_2).f1).toList) ((rd_T34 t292 x6_2).f0) ((rd_T34 t292 x6_2).f1) ((rd_T34 t292 x6_2).f2)) else (none)) else (none)) else (none))) else (if ((rd_T34 t292 x6_2).f0) = 4 then (if (wrap64 (((rd_T34 t292 x6_2).f2) + (((rd_T34 t292 x6_2).f1).size : Int))) > (a0.size : Int) then (freshetlaw13_LexPlaces.j3 kj20 a0 t292 x6_2 true ((rd_T34 t292 x6_2).f0) ((rd_T34 t292 x6_2).f1) ((rd_T34 t292 x6_2).f2)) else (if 0 ≤ ((rd_T34 t292 x6_2).f2) then (if ((rd_T34 t292 x6_2).f2) ≤ (wrap64 (((rd_T34 t292 x6_2).f2) + (((rd_T34 t292 x6_2).f1).size : Int))) then (if (wrap64 (((rd_T34 t292 x6_2).f2) + (((rd_T34 t292 x6_2).f1).size : Int))) ≤ (a0.size : Int) then (freshetlaw13_LexPlaces.j3 kj20 a0 t292 x6_2 ((a0.extract (((rd_T34 t292 x6_2).f2) : Int).toNat ((wrap64 (((rd_T34 t292 x6_2).f2) + (((rd_T34 t292 x6_2).f1).size : Int))) : Int).toNat).toList != ((rd_T34 t292 x6_2).f1).toList) ((rd_T34 t292 x6_2).f0) ((rd_T34 t292 x6_2).f1) ((rd_T34 t292 x6_2).f2)) else (none)) else (none)) else (none))) else (freshetlaw13_LexPlaces.j3 kj20 a0 t292 x6_2 false ((rd_T34 t292 x6_2).f0) ((rd_T34 t292 x6_2).f1) ((rd_T34 t292 x6_2).f2)))) = some r := by rw [if_neg (show ¬ (false = true) by decide)] at H; exact H
                            clear H
                            have H := H1
                            clear H1
                            have HC40 := Aside0.mk H
                            clear H
                            have hcz41_0 : wc.cell? ⟨gb299, 0, none⟩ = some (.int .i64 ((rd_T34 t292 x6_2).f0)) := (blk_cell BK299.out 0).trans rfl
                            have hcz41_1 : wc.cell? ⟨gb299, 1, none⟩ = some (.string ((rd_T34 t292 x6_2).f1)) := (blk_cell BK299.out 1).trans rfl
                            have hcz41_2 : wc.cell? ⟨gb299, 2, none⟩ = some (.int .i64 ((rd_T34 t292 x6_2).f2)) := (blk_cell BK299.out 2).trans rfl
                            have hfz41_0 := blk_frozen BK299.out 0
                            have hfz41_1 := blk_frozen BK299.out 1
                            have hfz41_2 := blk_frozen BK299.out 2
                            go_upto_region 15 with (fail)
                            repeat (go_quiet (fail); go_upto_region 15 with (fail))
                            go_cut [119] (fun v119 wc => ∃ (kq : Nat) (x119_39 : Bool), v119 = .bool x119_39 ∧ Aside0 (freshetlaw13_LexPlaces.j3 kq a0 t292 x6_2 x119_39 ((rd_T34 t292 x6_2).f0) ((rd_T34 t292 x6_2).f1) ((rd_T34 t292 x6_2).f2) = some r) ∧ Aside0 (kq ≤ kj20) ∧ Aside0 (Kd.R k34 34 wc w.heap.size (fun k_ => k_ ≠ gb299) (.slice (some ad298) t292.length co22) t292) ∧ Aside0 (wc.heap[gb299]? = some (.cells #[.int .i64 ((rd_T34 t292 x6_2).f0), .string ((rd_T34 t292 x6_2).f1), .int .i64 ((rd_T34 t292 x6_2).f2)] 34 (0, 0))) ∧ Aside0 (Below w.heap.size w wc))
                            case first =>
                              have H := HC40.out
                              clear HC40
                              by_cases c42 : ((rd_T34 t292 x6_2).f0) = 6
                              · rw [if_pos c42] at H
                                have c42b0 : (((rd_T34 t292 x6_2).f0) == 6) = true := beq_iff_eq.mpr c42
                                have c42b1 : (((rd_T34 t292 x6_2).f0) != 6) = false := bne_eq_false_iff_eq.mpr c42
                                clear c42
                                (first | rw [c42b0] | (simp only [i64_w, i32_w]; rw [c42b0]) | skip)
                                by_cases c43 : (wrap64 (((rd_T34 t292 x6_2).f2) + (((rd_T34 t292 x6_2).f1).size : Int))) > (a0.size : Int)
                                · rw [if_pos c43] at H
                                  have c43b0 : decide ((a0.size : Int) < (wrap64 (((rd_T34 t292 x6_2).f2) + (((rd_T34 t292 x6_2).f1).size : Int)))) = true := decide_eq_true c43
                                  clear c43
                                  have H' := Aside0.mk H
                                  clear H
                                  have hcz44_0 : wc.cell? ⟨gb299, 0, none⟩ = some (.int .i64 ((rd_T34 t292 x6_2).f0)) := (blk_cell BK299.out 0).trans rfl
                                  have hcz44_1 : wc.cell? ⟨gb299, 1, none⟩ = some (.string ((rd_T34 t292 x6_2).f1)) := (blk_cell BK299.out 1).trans rfl
                                  have hcz44_2 : wc.cell? ⟨gb299, 2, none⟩ = some (.int .i64 ((rd_T34 t292 x6_2).f2)) := (blk_cell BK299.out 2).trans rfl
                                  have hfz44_0 := blk_frozen BK299.out 0
                                  have hfz44_1 := blk_frozen BK299.out 1
                                  have hfz44_2 := blk_frozen BK299.out 2
                                  go_wp2
                                  repeat (go_quiet (fail); try go_wp2)
                                  go_meet
                                  case rel => exact ⟨_, (true), (by first | rfl | (simp; done) | (simp [*]; done)), H', ⟨by have := HJ5.out; have := HK2.out; have := HJ20.out; first | omega | exact Nat.le_refl _⟩, ⟨by (with_reducible repeat (first | apply Kd.R_alloc | apply Kd.R_drewN | apply Kd.R_drew)); exact HO_3.out⟩, ⟨by (with_reducible repeat (first | refine blk_drewN ?_ _ | refine blk_drew ?_ | refine blk_alloc ?_ _)); exact BK299.out⟩, ⟨by repeat (first | (with_reducible first | exact HB.out | apply below_alloc | apply pw_below_drewN | apply below_drew1 | refine below_set ?_ GE299.out) | exact HB.out)⟩⟩
                                · rw [if_neg c43] at H
                                  have c43b0 : decide ((a0.size : Int) < (wrap64 (((rd_T34 t292 x6_2).f2) + (((rd_T34 t292 x6_2).f1).size : Int)))) = false := decide_eq_false c43
                                  clear c43
                                  by_cases c45 : 0 ≤ ((rd_T34 t292 x6_2).f2)
                                  · rw [if_pos c45] at H
                                    have c45b0 := eq_true c45
                                    have c45b1 : decide (0 ≤ ((rd_T34 t292 x6_2).f2)) = true := decide_eq_true c45
                                    clear c45
                                    by_cases c46 : ((rd_T34 t292 x6_2).f2) ≤ (wrap64 (((rd_T34 t292 x6_2).f2) + (((rd_T34 t292 x6_2).f1).size : Int)))
                                    · rw [if_pos c46] at H
                                      have c46b0 := eq_true c46
                                      have c46b1 : decide (((rd_T34 t292 x6_2).f2) ≤ (wrap64 (((rd_T34 t292 x6_2).f2) + (((rd_T34 t292 x6_2).f1).size : Int)))) = true := decide_eq_true c46
                                      by_cases c47 : (wrap64 (((rd_T34 t292 x6_2).f2) + (((rd_T34 t292 x6_2).f1).size : Int))) ≤ (a0.size : Int)
                                      · rw [if_pos c47] at H
                                        have c47b0 := eq_true c47
                                        have c47b1 : decide ((wrap64 (((rd_T34 t292 x6_2).f2) + (((rd_T34 t292 x6_2).f1).size : Int))) ≤ (a0.size : Int)) = true := decide_eq_true c47
                                        have H' := Aside0.mk H
                                        clear H
                                        have hcz48_0 : wc.cell? ⟨gb299, 0, none⟩ = some (.int .i64 ((rd_T34 t292 x6_2).f0)) := (blk_cell BK299.out 0).trans rfl
                                        have hcz48_1 : wc.cell? ⟨gb299, 1, none⟩ = some (.string ((rd_T34 t292 x6_2).f1)) := (blk_cell BK299.out 1).trans rfl
                                        have hcz48_2 : wc.cell? ⟨gb299, 2, none⟩ = some (.int .i64 ((rd_T34 t292 x6_2).f2)) := (blk_cell BK299.out 2).trans rfl
                                        have hfz48_0 := blk_frozen BK299.out 0
                                        have hfz48_1 := blk_frozen BK299.out 1
                                        have hfz48_2 := blk_frozen BK299.out 2
                                        go_wp2
                                        repeat (go_quiet (fail); try go_wp2)
                                        go_meet
                                        case rel => exact ⟨_, (((a0.extract (((rd_T34 t292 x6_2).f2) : Int).toNat ((wrap64 (((rd_T34 t292 x6_2).f2) + (((rd_T34 t292 x6_2).f1).size : Int))) : Int).toNat).toList != ((rd_T34 t292 x6_2).f1).toList)), (by first | rfl | (simp; done) | (simp [*]; done)), H', ⟨by have := HJ5.out; have := HK2.out; have := HJ20.out; first | omega | exact Nat.le_refl _⟩, ⟨by (with_reducible repeat (first | apply Kd.R_alloc | apply Kd.R_drewN | apply Kd.R_drew)); exact HO_3.out⟩, ⟨by (with_reducible repeat (first | refine blk_drewN ?_ _ | refine blk_drew ?_ | refine blk_alloc ?_ _)); exact BK299.out⟩, ⟨by repeat (first | (with_reducible first | exact HB.out | apply below_alloc | apply pw_below_drewN | apply below_drew1 | refine below_set ?_ GE299.out) | exact HB.out)⟩⟩
                                      · rw [if_neg c47] at H
                                        exact absurd H (by simp)
                                    · rw [if_neg c46] at H
                                      exact absurd H (by simp)
                                  · rw [if_neg c45] at H
                                    exact absurd H (by simp)
                              · rw [if_neg c42] at H
                                have c42b0 : (((rd_T34 t292 x6_2).f0) == 6) = false := beq_eq_false_iff_ne.mpr c42
                                have c42b1 : (((rd_T34 t292 x6_2).f0) != 6) = true := bne_iff_ne.mpr c42
                                (first | rw [c42b0] | (simp only [i64_w, i32_w]; rw [c42b0]) | skip)
                                by_cases c49 : ((rd_T34 t292 x6_2).f0) = 4
                                · rw [if_pos c49] at H
                                  have c49b0 : (((rd_T34 t292 x6_2).f0) == 4) = true := beq_iff_eq.mpr c49
                                  have c49b1 : (((rd_T34 t292 x6_2).f0) != 4) = false := bne_eq_false_iff_eq.mpr c49
                                  clear c49
                                  by_cases c50 : (wrap64 (((rd_T34 t292 x6_2).f2) + (((rd_T34 t292 x6_2).f1).size : Int))) > (a0.size : Int)
                                  · rw [if_pos c50] at H
                                    have c50b0 : decide ((a0.size : Int) < (wrap64 (((rd_T34 t292 x6_2).f2) + (((rd_T34 t292 x6_2).f1).size : Int)))) = true := decide_eq_true c50
                                    clear c50
                                    have H' := Aside0.mk H
                                    clear H
                                    have hcz51_0 : wc.cell? ⟨gb299, 0, none⟩ = some (.int .i64 ((rd_T34 t292 x6_2).f0)) := (blk_cell BK299.out 0).trans rfl
                                    have hcz51_1 : wc.cell? ⟨gb299, 1, none⟩ = some (.string ((rd_T34 t292 x6_2).f1)) := (blk_cell BK299.out 1).trans rfl
                                    have hcz51_2 : wc.cell? ⟨gb299, 2, none⟩ = some (.int .i64 ((rd_T34 t292 x6_2).f2)) := (blk_cell BK299.out 2).trans rfl
                                    have hfz51_0 := blk_frozen BK299.out 0
                                    have hfz51_1 := blk_frozen BK299.out 1
                                    have hfz51_2 := blk_frozen BK299.out 2
                                    go_wp2
                                    repeat (go_quiet (fail); try go_wp2)
                                    go_meet
                                    case rel => exact ⟨_, (true), (by first | rfl | (simp; done) | (simp [*]; done)), H', ⟨by have := HJ5.out; have := HK2.out; have := HJ20.out; first | omega | exact Nat.le_refl _⟩, ⟨by (with_reducible repeat (first | apply Kd.R_alloc | apply Kd.R_drewN | apply Kd.R_drew)); exact HO_3.out⟩, ⟨by (with_reducible repeat (first | refine blk_drewN ?_ _ | refine blk_drew ?_ | refine blk_alloc ?_ _)); exact BK299.out⟩, ⟨by repeat (first | (with_reducible first | exact HB.out | apply below_alloc | apply pw_below_drewN | apply below_drew1 | refine below_set ?_ GE299.out) | exact HB.out)⟩⟩
                                  · rw [if_neg c50] at H
                                    have c50b0 : decide ((a0.size : Int) < (wrap64 (((rd_T34 t292 x6_2).f2) + (((rd_T34 t292 x6_2).f1).size : Int)))) = false := decide_eq_false c50
                                    clear c50
                                    by_cases c52 : 0 ≤ ((rd_T34 t292 x6_2).f2)
                                    · rw [if_pos c52] at H
                                      have c52b0 := eq_true c52
                                      have c52b1 : decide (0 ≤ ((rd_T34 t292 x6_2).f2)) = true := decide_eq_true c52
                                      clear c52
                                      by_cases c53 : ((rd_T34 t292 x6_2).f2) ≤ (wrap64 (((rd_T34 t292 x6_2).f2) + (((rd_T34 t292 x6_2).f1).size : Int)))
                                      · rw [if_pos c53] at H
                                        have c53b0 := eq_true c53
                                        have c53b1 : decide (((rd_T34 t292 x6_2).f2) ≤ (wrap64 (((rd_T34 t292 x6_2).f2) + (((rd_T34 t292 x6_2).f1).size : Int)))) = true := decide_eq_true c53
                                        by_cases c54 : (wrap64 (((rd_T34 t292 x6_2).f2) + (((rd_T34 t292 x6_2).f1).size : Int))) ≤ (a0.size : Int)
                                        · rw [if_pos c54] at H
                                          have c54b0 := eq_true c54
                                          have c54b1 : decide ((wrap64 (((rd_T34 t292 x6_2).f2) + (((rd_T34 t292 x6_2).f1).size : Int))) ≤ (a0.size : Int)) = true := decide_eq_true c54
                                          have H' := Aside0.mk H
                                          clear H
                                          have hcz55_0 : wc.cell? ⟨gb299, 0, none⟩ = some (.int .i64 ((rd_T34 t292 x6_2).f0)) := (blk_cell BK299.out 0).trans rfl
                                          have hcz55_1 : wc.cell? ⟨gb299, 1, none⟩ = some (.string ((rd_T34 t292 x6_2).f1)) := (blk_cell BK299.out 1).trans rfl
                                          have hcz55_2 : wc.cell? ⟨gb299, 2, none⟩ = some (.int .i64 ((rd_T34 t292 x6_2).f2)) := (blk_cell BK299.out 2).trans rfl
                                          have hfz55_0 := blk_frozen BK299.out 0
                                          have hfz55_1 := blk_frozen BK299.out 1
                                          have hfz55_2 := blk_frozen BK299.out 2
                                          go_wp2
                                          repeat (go_quiet (fail); try go_wp2)
                                          go_meet
                                          case rel => exact ⟨_, (((a0.extract (((rd_T34 t292 x6_2).f2) : Int).toNat ((wrap64 (((rd_T34 t292 x6_2).f2) + (((rd_T34 t292 x6_2).f1).size : Int))) : Int).toNat).toList != ((rd_T34 t292 x6_2).f1).toList)), (by first | rfl | (simp; done) | (simp [*]; done)), H', ⟨by have := HJ5.out; have := HK2.out; have := HJ20.out; first | omega | exact Nat.le_refl _⟩, ⟨by (with_reducible repeat (first | apply Kd.R_alloc | apply Kd.R_drewN | apply Kd.R_drew)); exact HO_3.out⟩, ⟨by (with_reducible repeat (first | refine blk_drewN ?_ _ | refine blk_drew ?_ | refine blk_alloc ?_ _)); exact BK299.out⟩, ⟨by repeat (first | (with_reducible first | exact HB.out | apply below_alloc | apply pw_below_drewN | apply below_drew1 | refine below_set ?_ GE299.out) | exact HB.out)⟩⟩
                                        · rw [if_neg c54] at H
                                          exact absurd H (by simp)
                                      · rw [if_neg c53] at H
                                        exact absurd H (by simp)
                                    · rw [if_neg c52] at H
                                      exact absurd H (by simp)
                                · rw [if_neg c49] at H
                                  have c49b0 : (((rd_T34 t292 x6_2).f0) == 4) = false := beq_eq_false_iff_ne.mpr c49
                                  have c49b1 : (((rd_T34 t292 x6_2).f0) != 4) = true := bne_iff_ne.mpr c49
                                  have H' := Aside0.mk H
                                  clear H
                                  have hcz56_0 : wc.cell? ⟨gb299, 0, none⟩ = some (.int .i64 ((rd_T34 t292 x6_2).f0)) := (blk_cell BK299.out 0).trans rfl
                                  have hcz56_1 : wc.cell? ⟨gb299, 1, none⟩ = some (.string ((rd_T34 t292 x6_2).f1)) := (blk_cell BK299.out 1).trans rfl
                                  have hcz56_2 : wc.cell? ⟨gb299, 2, none⟩ = some (.int .i64 ((rd_T34 t292 x6_2).f2)) := (blk_cell BK299.out 2).trans rfl
                                  have hfz56_0 := blk_frozen BK299.out 0
                                  have hfz56_1 := blk_frozen BK299.out 1
                                  have hfz56_2 := blk_frozen BK299.out 2
                                  go_wp2
                                  repeat (go_quiet (fail); try go_wp2)
                                  go_meet
                                  case rel => exact ⟨_, (false), (by first | rfl | (simp; done) | (simp [*]; done)), H', ⟨by have := HJ5.out; have := HK2.out; have := HJ20.out; first | omega | exact Nat.le_refl _⟩, ⟨by (with_reducible repeat (first | apply Kd.R_alloc | apply Kd.R_drewN | apply Kd.R_drew)); exact HO_3.out⟩, ⟨by (with_reducible repeat (first | refine blk_drewN ?_ _ | refine blk_drew ?_ | refine blk_alloc ?_ _)); exact BK299.out⟩, ⟨by repeat (first | (with_reducible first | exact HB.out | apply below_alloc | apply pw_below_drewN | apply below_drew1 | refine below_set ?_ GE299.out) | exact HB.out)⟩⟩
                            case rest =>
                              clear HC40
                              try clear c1
                              try clear c2
                              try clear p2
                              try clear q2
                              try clear hx2
                              try clear c3
                              try clear p3
                              try clear q3
                              try clear hx3
                              try clear c4
                              try clear c5
                              try clear c5b0
                              try clear c5b1
                              try clear p6
                              try clear c8
                              try clear c9
                              try clear c9b0
                              try clear c9b1
                              try clear c12
                              try clear c12b0
                              try clear c13
                              try clear c13b0
                              try clear c14
                              try clear c14b0
                              try clear c17
                              try clear c18
                              try clear c18b0
                              try clear c19
                              try clear c19b0
                              try clear c20
                              try clear c20b0
                              try clear c25
                              try clear c25b0
                              try clear c27
                              try clear c27b0
                              try clear c29
                              try clear c29b0
                              try clear p29
                              try clear q29
                              try clear hx29
                              try clear p30
                              try clear q30
                              try clear hx30
                              try clear c32
                              try clear c32b0
                              try clear c33
                              try clear c33b0
                              try clear c34
                              try clear c34b0
                              try clear c36
                              try clear c36b0
                              try clear c36b1
                              try clear c39
                              try clear c42
                              try clear c42b0
                              try clear c42b1
                              try clear c43
                              try clear c43b0
                              try clear c45
                              try clear c45b0
                              try clear c45b1
                              try clear c46
                              try clear c46b0
                              try clear c46b1
                              try clear c47
                              try clear c47b0
                              try clear c47b1
                              try clear c49
                              try clear c49b0
                              try clear c49b1
                              try clear c50
                              try clear c50b0
                              try clear c52
                              try clear c52b0
                              try clear c52b1
                              try clear c53
                              try clear c53b0
                              try clear c53b1
                              try clear c54
                              try clear c54b0
                              try clear c54b1
                              try clear hcz24_0
                              try clear hcz24_1
                              try clear hcz24_2
                              try clear hcz26_0
                              try clear hcz26_1
                              try clear hcz26_2
                              try clear hcz28_0
                              try clear hcz28_1
                              try clear hcz28_2
                              try clear hcz30_0
                              try clear hcz30_1
                              try clear hcz30_2
                              try clear hcz35_0
                              try clear hcz35_1
                              try clear hcz35_2
                              try clear hcz37_0
                              try clear hcz37_1
                              try clear hcz37_2
                              try clear hcz38_0
                              try clear hcz38_1
                              try clear hcz38_2
                              try clear hcz41_0
                              try clear hcz41_1
                              try clear hcz41_2
                              try clear hcz44_0
                              try clear hcz44_1
                              try clear hcz44_2
                              try clear hcz48_0
                              try clear hcz48_1
                              try clear hcz48_2
                              try clear hcz51_0
                              try clear hcz51_1
                              try clear hcz51_2
                              try clear hcz55_0
                              try clear hcz55_1
                              try clear hcz55_2
                              try clear hcz56_0
                              try clear hcz56_1
                              try clear hcz56_2
                              try clear hfz24_0
                              try clear hfz24_1
                              try clear hfz24_2
                              try clear hfz26_0
                              try clear hfz26_1
                              try clear hfz26_2
                              try clear hfz28_0
                              try clear hfz28_1
                              try clear hfz28_2
                              try clear hfz30_0
                              try clear hfz30_1
                              try clear hfz30_2
                              try clear hfz35_0
                              try clear hfz35_1
                              try clear hfz35_2
                              try clear hfz37_0
                              try clear hfz37_1
                              try clear hfz37_2
                              try clear hfz38_0
                              try clear hfz38_1
                              try clear hfz38_2
                              try clear hfz41_0
                              try clear hfz41_1
                              try clear hfz41_2
                              try clear hfz44_0
                              try clear hfz44_1
                              try clear hfz44_2
                              try clear hfz48_0
                              try clear hfz48_1
                              try clear hfz48_2
                              try clear hfz51_0
                              try clear hfz51_1
                              try clear hfz51_2
                              try clear hfz55_0
                              try clear hfz55_1
                              try clear hfz55_2
                              try clear hfz56_0
                              try clear hfz56_1
                              try clear hfz56_2
                              try clear hx297_0
                              try clear hx297_1
                              try clear hx297_2
                              try clear hx298_0
                              try clear hx298_1
                              try clear hx298_2
                              try clear hx300_0
                              try clear hx300_1
                              try clear hx300_2
                              try clear p2
                              try clear p29
                              try clear p297
                              try clear p298
                              try clear p3
                              try clear p30
                              try clear p300
                              try clear p6
                              try clear q2
                              try clear q29
                              try clear q297
                              try clear q298
                              try clear q3
                              try clear q30
                              try clear q300
                              obtain ⟨kq, x119_39, rfl, HA, HJ39, HO_3, BK299, HB⟩ := hcut
                              cases kq with
                              | zero => exact absurd HA.out (by simp [freshetlaw13_LexPlaces.j3])
                              | succ kj39 =>
                                have H := HA.out
                                clear HA
                                simp only [freshetlaw13_LexPlaces.j3] at H
                                by_cases c57 : x119_39 = true
                                · subst c57
                                  have H1 : (some false) = some r := by rw [if_pos rfl] at H; exact H
                                  clear H
                                  have H := H1
                                  clear H1
                                  obtain rfl := Option.some.inj H
                                  go_wp2
                                  repeat (go_quiet (fail); try go_wp2)
                                  go_ret
                                  exact ⟨by first | rfl | (simp [errW_none, errW_some] <;> rfl) | (simp [*, errW_none, errW_some] <;> rfl), by repeat (first | (with_reducible first | exact HB.out | apply below_alloc | apply pw_below_drewN | apply below_drew1 | refine below_set ?_ GE299.out) | exact HB.out)⟩
                                · replace c57 := Bool.eq_false_iff.mpr c57
                                  subst c57
                                  have H1 : (if ((rd_T34 t292 x6_2).f0) = 2 then ((xIsWord.f ((rd_T34 t292 x6_2).f1)).bind fun t301 => (if t301 = true then (freshetlaw13_LexPlaces.l0 kj39 a0 t292 (wrap64 (x6_2 + 1))) else (some false))) else (freshetlaw13_LexPlaces.l0 kj39 a0 t292 (wrap64 (x6_2 + 1)))) = some r := by rw [if_neg (show ¬ (false = true) by decide)] at H; exact H
                                  clear H
                                  have H := H1
                                  clear H1
                                  by_cases c58 : ((rd_T34 t292 x6_2).f0) = 2
                                  · rw [if_pos c58] at H
                                    have c58b0 : (((rd_T34 t292 x6_2).f0) == 2) = true := beq_iff_eq.mpr c58
                                    have c58b1 : (((rd_T34 t292 x6_2).f0) != 2) = false := bne_eq_false_iff_eq.mpr c58
                                    clear c58
                                    replace H := Option.bind_eq_some_iff.mp H
                                    obtain ⟨t301, A590, H⟩ := H
                                    replace H : (if t301 = true then (freshetlaw13_LexPlaces.l0 kj39 a0 t292 (wrap64 (x6_2 + 1))) else (some false)) = some r := H
                                    have A59 := Aside0.mk A590
                                    clear A590
                                    by_cases c60 : t301 = true
                                    · subst c60
                                      have H1 : (freshetlaw13_LexPlaces.l0 kj39 a0 t292 (wrap64 (x6_2 + 1))) = some r := by rw [if_pos rfl] at H; exact H
                                      clear H
                                      have H := H1
                                      clear H1
                                      have H' := Aside0.mk H
                                      clear H
                                      have hcz61_0 : wc.cell? ⟨gb299, 0, none⟩ = some (.int .i64 ((rd_T34 t292 x6_2).f0)) := (blk_cell BK299.out 0).trans rfl
                                      have hcz61_1 : wc.cell? ⟨gb299, 1, none⟩ = some (.string ((rd_T34 t292 x6_2).f1)) := (blk_cell BK299.out 1).trans rfl
                                      have hcz61_2 : wc.cell? ⟨gb299, 2, none⟩ = some (.int .i64 ((rd_T34 t292 x6_2).f2)) := (blk_cell BK299.out 2).trans rfl
                                      have hfz61_0 := blk_frozen BK299.out 0
                                      have hfz61_1 := blk_frozen BK299.out 1
                                      have hfz61_2 := blk_frozen BK299.out 2
                                      go_wp2_with (first | (go_at_call 15; (with_reducible refine (xIsWord.calls ((rd_T34 t292 x6_2).f1) true _ ?side1 A59.out).mono ?_); (case side1 => first | exact HT.out | exact tab_at HT.out (by repeat (first | (with_reducible first | exact HB.out | apply below_alloc | apply pw_below_drewN | apply below_drew1 | refine below_set ?_ GE299.out) | exact HB.out)) | (repeat (first | exact HT.out | refine tab_drewN ?_ | refine tab_drew ?_))); rintro e w62 ⟨rfl, hb⟩; have n0_ := Aside0.mk (Kd.R_below (by (with_reducible repeat (first | apply Kd.R_alloc | apply Kd.R_drewN | apply Kd.R_drew)); exact HO_3.out) hb); have n1_ := Aside0.mk (blk_below (g := gb299) (o := .cells #[.int .i64 ((rd_T34 t292 x6_2).f0), .string ((rd_T34 t292 x6_2).f1), .int .i64 ((rd_T34 t292 x6_2).f2)] 34 (0, 0)) (by (with_reducible repeat (first | refine blk_drewN ?_ _ | refine blk_drew ?_ | refine blk_alloc ?_ _)); exact BK299.out) hb); have n2_ := Aside0.mk (below_step (by repeat (first | (with_reducible first | exact HB.out | apply below_alloc | apply pw_below_drewN | apply below_drew1 | refine below_set ?_ GE299.out) | exact HB.out)) hb); clear HO_3; clear BK299; clear HB; have HO_3 := n0_; have BK299 := n1_; have HB := n2_; clear n0_ n1_ n2_; (try clear hb); (try clear hb2); (try clear hk); (try clear hi)))
                                      repeat (go_quiet (first | (go_at_call 15; (with_reducible refine (xIsWord.calls ((rd_T34 t292 x6_2).f1) true _ ?side1 A59.out).mono ?_); (case side1 => first | exact HT.out | exact tab_at HT.out (by repeat (first | (with_reducible first | exact HB.out | apply below_alloc | apply pw_below_drewN | apply below_drew1 | refine below_set ?_ GE299.out) | exact HB.out)) | (repeat (first | exact HT.out | refine tab_drewN ?_ | refine tab_drew ?_))); rintro e w62 ⟨rfl, hb⟩; have n0_ := Aside0.mk (Kd.R_below (by (with_reducible repeat (first | apply Kd.R_alloc | apply Kd.R_drewN | apply Kd.R_drew)); exact HO_3.out) hb); have n1_ := Aside0.mk (blk_below (g := gb299) (o := .cells #[.int .i64 ((rd_T34 t292 x6_2).f0), .string ((rd_T34 t292 x6_2).f1), .int .i64 ((rd_T34 t292 x6_2).f2)] 34 (0, 0)) (by (with_reducible repeat (first | refine blk_drewN ?_ _ | refine blk_drew ?_ | refine blk_alloc ?_ _)); exact BK299.out) hb); have n2_ := Aside0.mk (below_step (by repeat (first | (with_reducible first | exact HB.out | apply below_alloc | apply pw_below_drewN | apply below_drew1 | refine below_set ?_ GE299.out) | exact HB.out)) hb); clear HO_3; clear BK299; clear HB; have HO_3 := n0_; have BK299 := n1_; have HB := n2_; clear n0_ n1_ n2_; (try clear hb); (try clear hb2); (try clear hk); (try clear hi))); try go_wp2_with (first | (go_at_call 15; (with_reducible refine (xIsWord.calls ((rd_T34 t292 x6_2).f1) true _ ?side1 A59.out).mono ?_); (case side1 => first | exact HT.out | exact tab_at HT.out (by repeat (first | (with_reducible first | exact HB.out | apply below_alloc | apply pw_below_drewN | apply below_drew1 | refine below_set ?_ GE299.out) | exact HB.out)) | (repeat (first | exact HT.out | refine tab_drewN ?_ | refine tab_drew ?_))); rintro e w62 ⟨rfl, hb⟩; have n0_ := Aside0.mk (Kd.R_below (by (with_reducible repeat (first | apply Kd.R_alloc | apply Kd.R_drewN | apply Kd.R_drew)); exact HO_3.out) hb); have n1_ := Aside0.mk (blk_below (g := gb299) (o := .cells #[.int .i64 ((rd_T34 t292 x6_2).f0), .string ((rd_T34 t292 x6_2).f1), .int .i64 ((rd_T34 t292 x6_2).f2)] 34 (0, 0)) (by (with_reducible repeat (first | refine blk_drewN ?_ _ | refine blk_drew ?_ | refine blk_alloc ?_ _)); exact BK299.out) hb); have n2_ := Aside0.mk (below_step (by repeat (first | (with_reducible first | exact HB.out | apply below_alloc | apply pw_below_drewN | apply below_drew1 | refine below_set ?_ GE299.out) | exact HB.out)) hb); clear HO_3; clear BK299; clear HB; have HO_3 := n0_; have BK299 := n1_; have HB := n2_; clear n0_ n1_ n2_; (try clear hb); (try clear hb2); (try clear hk); (try clear hi))))
                                      go_roundg kj39
                                      case measure => have := HJ5.out; have := HK2.out; have := HJ20.out; have := HJ39.out; omega
                                      case rel => exact ⟨(wrap64 (x6_2 + 1)), (by first | rfl | (simp; done) | (simp [*]; done)), H', ⟨by have := HJ5.out; have := HK2.out; have := HJ20.out; have := HJ39.out; omega⟩, ⟨by (with_reducible repeat (first | apply Kd.R_alloc | apply Kd.R_drewN | apply Kd.R_drew)); exact Kd.R_mono HO_3.out (fun _ hk => trivial)⟩, ⟨by repeat (first | (with_reducible first | exact HB.out | apply below_alloc | apply pw_below_drewN | apply below_drew1 | refine below_set ?_ GE299.out) | exact HB.out)⟩⟩
                                    · replace c60 := Bool.eq_false_iff.mpr c60
                                      subst c60
                                      have H1 : (some false) = some r := by rw [if_neg (show ¬ (false = true) by decide)] at H; exact H
                                      clear H
                                      have H := H1
                                      clear H1
                                      obtain rfl := Option.some.inj H
                                      have hcz63_0 : wc.cell? ⟨gb299, 0, none⟩ = some (.int .i64 ((rd_T34 t292 x6_2).f0)) := (blk_cell BK299.out 0).trans rfl
                                      have hcz63_1 : wc.cell? ⟨gb299, 1, none⟩ = some (.string ((rd_T34 t292 x6_2).f1)) := (blk_cell BK299.out 1).trans rfl
                                      have hcz63_2 : wc.cell? ⟨gb299, 2, none⟩ = some (.int .i64 ((rd_T34 t292 x6_2).f2)) := (blk_cell BK299.out 2).trans rfl
                                      have hfz63_0 := blk_frozen BK299.out 0
                                      have hfz63_1 := blk_frozen BK299.out 1
                                      have hfz63_2 := blk_frozen BK299.out 2
                                      go_wp2_with (first | (go_at_call 15; (with_reducible refine (xIsWord.calls ((rd_T34 t292 x6_2).f1) false _ ?side1 A59.out).mono ?_); (case side1 => first | exact HT.out | exact tab_at HT.out (by repeat (first | (with_reducible first | exact HB.out | apply below_alloc | apply pw_below_drewN | apply below_drew1 | refine below_set ?_ GE299.out) | exact HB.out)) | (repeat (first | exact HT.out | refine tab_drewN ?_ | refine tab_drew ?_))); rintro e w64 ⟨rfl, hb⟩; have n0_ := Aside0.mk (Kd.R_below (by (with_reducible repeat (first | apply Kd.R_alloc | apply Kd.R_drewN | apply Kd.R_drew)); exact HO_3.out) hb); have n1_ := Aside0.mk (blk_below (g := gb299) (o := .cells #[.int .i64 ((rd_T34 t292 x6_2).f0), .string ((rd_T34 t292 x6_2).f1), .int .i64 ((rd_T34 t292 x6_2).f2)] 34 (0, 0)) (by (with_reducible repeat (first | refine blk_drewN ?_ _ | refine blk_drew ?_ | refine blk_alloc ?_ _)); exact BK299.out) hb); have n2_ := Aside0.mk (below_step (by repeat (first | (with_reducible first | exact HB.out | apply below_alloc | apply pw_below_drewN | apply below_drew1 | refine below_set ?_ GE299.out) | exact HB.out)) hb); clear HO_3; clear BK299; clear HB; have HO_3 := n0_; have BK299 := n1_; have HB := n2_; clear n0_ n1_ n2_; (try clear hb); (try clear hb2); (try clear hk); (try clear hi)))
                                      repeat (go_quiet (first | (go_at_call 15; (with_reducible refine (xIsWord.calls ((rd_T34 t292 x6_2).f1) false _ ?side1 A59.out).mono ?_); (case side1 => first | exact HT.out | exact tab_at HT.out (by repeat (first | (with_reducible first | exact HB.out | apply below_alloc | apply pw_below_drewN | apply below_drew1 | refine below_set ?_ GE299.out) | exact HB.out)) | (repeat (first | exact HT.out | refine tab_drewN ?_ | refine tab_drew ?_))); rintro e w64 ⟨rfl, hb⟩; have n0_ := Aside0.mk (Kd.R_below (by (with_reducible repeat (first | apply Kd.R_alloc | apply Kd.R_drewN | apply Kd.R_drew)); exact HO_3.out) hb); have n1_ := Aside0.mk (blk_below (g := gb299) (o := .cells #[.int .i64 ((rd_T34 t292 x6_2).f0), .string ((rd_T34 t292 x6_2).f1), .int .i64 ((rd_T34 t292 x6_2).f2)] 34 (0, 0)) (by (with_reducible repeat (first | refine blk_drewN ?_ _ | refine blk_drew ?_ | refine blk_alloc ?_ _)); exact BK299.out) hb); have n2_ := Aside0.mk (below_step (by repeat (first | (with_reducible first | exact HB.out | apply below_alloc | apply pw_below_drewN | apply below_drew1 | refine below_set ?_ GE299.out) | exact HB.out)) hb); clear HO_3; clear BK299; clear HB; have HO_3 := n0_; have BK299 := n1_; have HB := n2_; clear n0_ n1_ n2_; (try clear hb); (try clear hb2); (try clear hk); (try clear hi))); try go_wp2_with (first | (go_at_call 15; (with_reducible refine (xIsWord.calls ((rd_T34 t292 x6_2).f1) false _ ?side1 A59.out).mono ?_); (case side1 => first | exact HT.out | exact tab_at HT.out (by repeat (first | (with_reducible first | exact HB.out | apply below_alloc | apply pw_below_drewN | apply below_drew1 | refine below_set ?_ GE299.out) | exact HB.out)) | (repeat (first | exact HT.out | refine tab_drewN ?_ | refine tab_drew ?_))); rintro e w64 ⟨rfl, hb⟩; have n0_ := Aside0.mk (Kd.R_below (by (with_reducible repeat (first | apply Kd.R_alloc | apply Kd.R_drewN | apply Kd.R_drew)); exact HO_3.out) hb); have n1_ := Aside0.mk (blk_below (g := gb299) (o := .cells #[.int .i64 ((rd_T34 t292 x6_2).f0), .string ((rd_T34 t292 x6_2).f1), .int .i64 ((rd_T34 t292 x6_2).f2)] 34 (0, 0)) (by (with_reducible repeat (first | refine blk_drewN ?_ _ | refine blk_drew ?_ | refine blk_alloc ?_ _)); exact BK299.out) hb); have n2_ := Aside0.mk (below_step (by repeat (first | (with_reducible first | exact HB.out | apply below_alloc | apply pw_below_drewN | apply below_drew1 | refine below_set ?_ GE299.out) | exact HB.out)) hb); clear HO_3; clear BK299; clear HB; have HO_3 := n0_; have BK299 := n1_; have HB := n2_; clear n0_ n1_ n2_; (try clear hb); (try clear hb2); (try clear hk); (try clear hi))))
                                      go_ret
                                      exact ⟨by first | rfl | (simp [errW_none, errW_some] <;> rfl) | (simp [*, errW_none, errW_some] <;> rfl), by repeat (first | (with_reducible first | exact HB.out | apply below_alloc | apply pw_below_drewN | apply below_drew1 | refine below_set ?_ GE299.out) | exact HB.out)⟩
                                  · rw [if_neg c58] at H
                                    have c58b0 : (((rd_T34 t292 x6_2).f0) == 2) = false := beq_eq_false_iff_ne.mpr c58
                                    have c58b1 : (((rd_T34 t292 x6_2).f0) != 2) = true := bne_iff_ne.mpr c58
                                    have H' := Aside0.mk H
                                    clear H
                                    have hcz65_0 : wc.cell? ⟨gb299, 0, none⟩ = some (.int .i64 ((rd_T34 t292 x6_2).f0)) := (blk_cell BK299.out 0).trans rfl
                                    have hcz65_1 : wc.cell? ⟨gb299, 1, none⟩ = some (.string ((rd_T34 t292 x6_2).f1)) := (blk_cell BK299.out 1).trans rfl
                                    have hcz65_2 : wc.cell? ⟨gb299, 2, none⟩ = some (.int .i64 ((rd_T34 t292 x6_2).f2)) := (blk_cell BK299.out 2).trans rfl
                                    have hfz65_0 := blk_frozen BK299.out 0
                                    have hfz65_1 := blk_frozen BK299.out 1
                                    have hfz65_2 := blk_frozen BK299.out 2
                                    go_wp2
                                    repeat (go_quiet (fail); try go_wp2)
                                    go_roundg kj39
                                    case measure => have := HJ5.out; have := HK2.out; have := HJ20.out; have := HJ39.out; omega
                                    case rel => exact ⟨(wrap64 (x6_2 + 1)), (by first | rfl | (simp; done) | (simp [*]; done)), H', ⟨by have := HJ5.out; have := HK2.out; have := HJ20.out; have := HJ39.out; omega⟩, ⟨by (with_reducible repeat (first | apply Kd.R_alloc | apply Kd.R_drewN | apply Kd.R_drew)); exact Kd.R_mono HO_3.out (fun _ hk => trivial)⟩, ⟨by repeat (first | (with_reducible first | exact HB.out | apply below_alloc | apply pw_below_drewN | apply below_drew1 | refine below_set ?_ GE299.out) | exact HB.out)⟩⟩
                    · rw [if_neg c20] at H
                      exact absurd H (by simp)
                  · rw [if_neg c19] at H
                    exact absurd H (by simp)
                · rw [if_neg c18] at H
                  have c18b0 : decide (x6_2 < (wrap64 ((t292.length : Int) - 1))) = false := decide_eq_false c18
                  clear c18
                  obtain rfl := Option.some.inj H
                  obtain ⟨Ao66, co66, eo66⟩ := Kd.R_slice HO_3.out
                  subst eo66
                  go_wp2
                  repeat (go_quiet (fail); try go_wp2)
                  go_ret
                  exact ⟨by first | rfl | (simp [errW_none, errW_some] <;> rfl) | (simp [*, errW_none, errW_some] <;> rfl), by repeat (first | (with_reducible first | exact HB.out | apply below_alloc | apply pw_below_drewN | apply below_drew1) | exact HB.out)⟩
    · rw [if_neg c5] at H
      have c5b0 : (t294 == 0) = false := beq_eq_false_iff_ne.mpr c5
      have c5b1 : (t294 != 0) = true := bne_iff_ne.mpr c5
      obtain rfl := Option.some.inj H
      go_enter Tryd.func8, Tryd.ntmps8
      go_wp2_with (first | (go_at_call 9; (with_reducible refine (freshetlaw13_awake.calls k  true _ ?side1 A2.out).mono ?_); (case side1 => first | exact HT.out | exact tab_at HT.out (by repeat (first | (with_reducible first | exact HB.out | apply below_alloc | apply pw_below_drewN | apply below_drew1) | exact HB.out)) | (repeat (first | exact HT.out | refine tab_drewN ?_ | refine tab_drew ?_))); rintro e w67 ⟨rfl, hb⟩; have n0_ := Aside0.mk (below_step (by repeat (first | (with_reducible first | exact HB.out | apply below_alloc | apply pw_below_drewN | apply below_drew1) | exact HB.out)) hb); clear HB; have HB := n0_; clear n0_; (try clear hb); (try clear hb2); (try clear hk); (try clear hi)) | (go_at_call 10; (with_reducible refine (xScan.calls a0 t292 t293 t294 _ ?side1 A4.out).mono ?_); (case side1 => first | exact HT.out | exact tab_at HT.out (by repeat (first | (with_reducible first | exact HB.out | apply below_alloc | apply pw_below_drewN | apply below_drew1) | exact HB.out)) | (repeat (first | exact HT.out | refine tab_drewN ?_ | refine tab_drew ?_))); rintro e w68 ⟨v295, rfl, ho0, hb⟩; have n0_ := Aside0.mk (Kd.R_lower ho0 (below_size (by repeat (first | (with_reducible first | exact HB.out | apply below_alloc | apply pw_below_drewN | apply below_drew1) | exact HB.out)))); have n1_ := Aside0.mk (below_step (by repeat (first | (with_reducible first | exact HB.out | apply below_alloc | apply pw_below_drewN | apply below_drew1) | exact HB.out)) hb); clear HB; have HO296 := n0_; have HB := n1_; clear n0_ n1_; (try clear hb); (try clear hb2); (try clear hk); (try clear hi); (try clear ho0); obtain ⟨Ao69, co69, eo69⟩ := Kd.R_slice HO296.out; subst eo69))
      repeat (go_quiet (first | (go_at_call 9; (with_reducible refine (freshetlaw13_awake.calls k  true _ ?side1 A2.out).mono ?_); (case side1 => first | exact HT.out | exact tab_at HT.out (by repeat (first | (with_reducible first | exact HB.out | apply below_alloc | apply pw_below_drewN | apply below_drew1) | exact HB.out)) | (repeat (first | exact HT.out | refine tab_drewN ?_ | refine tab_drew ?_))); rintro e w67 ⟨rfl, hb⟩; have n0_ := Aside0.mk (below_step (by repeat (first | (with_reducible first | exact HB.out | apply below_alloc | apply pw_below_drewN | apply below_drew1) | exact HB.out)) hb); clear HB; have HB := n0_; clear n0_; (try clear hb); (try clear hb2); (try clear hk); (try clear hi)) | (go_at_call 10; (with_reducible refine (xScan.calls a0 t292 t293 t294 _ ?side1 A4.out).mono ?_); (case side1 => first | exact HT.out | exact tab_at HT.out (by repeat (first | (with_reducible first | exact HB.out | apply below_alloc | apply pw_below_drewN | apply below_drew1) | exact HB.out)) | (repeat (first | exact HT.out | refine tab_drewN ?_ | refine tab_drew ?_))); rintro e w68 ⟨v295, rfl, ho0, hb⟩; have n0_ := Aside0.mk (Kd.R_lower ho0 (below_size (by repeat (first | (with_reducible first | exact HB.out | apply below_alloc | apply pw_below_drewN | apply below_drew1) | exact HB.out)))); have n1_ := Aside0.mk (below_step (by repeat (first | (with_reducible first | exact HB.out | apply below_alloc | apply pw_below_drewN | apply below_drew1) | exact HB.out)) hb); clear HB; have HO296 := n0_; have HB := n1_; clear n0_ n1_; (try clear hb); (try clear hb2); (try clear hk); (try clear hi); (try clear ho0); obtain ⟨Ao69, co69, eo69⟩ := Kd.R_slice HO296.out; subst eo69)); try go_wp2_with (first | (go_at_call 9; (with_reducible refine (freshetlaw13_awake.calls k  true _ ?side1 A2.out).mono ?_); (case side1 => first | exact HT.out | exact tab_at HT.out (by repeat (first | (with_reducible first | exact HB.out | apply below_alloc | apply pw_below_drewN | apply below_drew1) | exact HB.out)) | (repeat (first | exact HT.out | refine tab_drewN ?_ | refine tab_drew ?_))); rintro e w67 ⟨rfl, hb⟩; have n0_ := Aside0.mk (below_step (by repeat (first | (with_reducible first | exact HB.out | apply below_alloc | apply pw_below_drewN | apply below_drew1) | exact HB.out)) hb); clear HB; have HB := n0_; clear n0_; (try clear hb); (try clear hb2); (try clear hk); (try clear hi)) | (go_at_call 10; (with_reducible refine (xScan.calls a0 t292 t293 t294 _ ?side1 A4.out).mono ?_); (case side1 => first | exact HT.out | exact tab_at HT.out (by repeat (first | (with_reducible first | exact HB.out | apply below_alloc | apply pw_below_drewN | apply below_drew1) | exact HB.out)) | (repeat (first | exact HT.out | refine tab_drewN ?_ | refine tab_drew ?_))); rintro e w68 ⟨v295, rfl, ho0, hb⟩; have n0_ := Aside0.mk (Kd.R_lower ho0 (below_size (by repeat (first | (with_reducible first | exact HB.out | apply below_alloc | apply pw_below_drewN | apply below_drew1) | exact HB.out)))); have n1_ := Aside0.mk (below_step (by repeat (first | (with_reducible first | exact HB.out | apply below_alloc | apply pw_below_drewN | apply below_drew1) | exact HB.out)) hb); clear HB; have HO296 := n0_; have HB := n1_; clear n0_ n1_; (try clear hb); (try clear hb2); (try clear hk); (try clear hi); (try clear ho0); obtain ⟨Ao69, co69, eo69⟩ := Kd.R_slice HO296.out; subst eo69)))
      go_ret
      exact ⟨by first | rfl | (simp [errW_none, errW_some] <;> rfl) | (simp [*, errW_none, errW_some] <;> rfl), by repeat (first | (with_reducible first | exact HB.out | apply below_alloc | apply pw_below_drewN | apply below_drew1) | exact HB.out)⟩
  · replace c3 := Bool.eq_false_iff.mpr c3
    subst c3
    have H1 : (some false) = some r := by rw [if_neg (show ¬ (false = true) by decide)] at H; exact H
    clear H
    have H := H1
    clear H1
    obtain rfl := Option.some.inj H
    go_enter Tryd.func8, Tryd.ntmps8
    go_wp2_with (first | (go_at_call 9; (with_reducible refine (freshetlaw13_awake.calls k  false _ ?side1 A2.out).mono ?_); (case side1 => first | exact HT.out | exact tab_at HT.out (by repeat (first | (with_reducible first | exact HB.out | apply below_alloc | apply pw_below_drewN | apply below_drew1) | exact HB.out)) | (repeat (first | exact HT.out | refine tab_drewN ?_ | refine tab_drew ?_))); rintro e w70 ⟨rfl, hb⟩; have n0_ := Aside0.mk (below_step (by repeat (first | (with_reducible first | exact HB.out | apply below_alloc | apply pw_below_drewN | apply below_drew1) | exact HB.out)) hb); clear HB; have HB := n0_; clear n0_; (try clear hb); (try clear hb2); (try clear hk); (try clear hi)))
    repeat (go_quiet (first | (go_at_call 9; (with_reducible refine (freshetlaw13_awake.calls k  false _ ?side1 A2.out).mono ?_); (case side1 => first | exact HT.out | exact tab_at HT.out (by repeat (first | (with_reducible first | exact HB.out | apply below_alloc | apply pw_below_drewN | apply below_drew1) | exact HB.out)) | (repeat (first | exact HT.out | refine tab_drewN ?_ | refine tab_drew ?_))); rintro e w70 ⟨rfl, hb⟩; have n0_ := Aside0.mk (below_step (by repeat (first | (with_reducible first | exact HB.out | apply below_alloc | apply pw_below_drewN | apply below_drew1) | exact HB.out)) hb); clear HB; have HB := n0_; clear n0_; (try clear hb); (try clear hb2); (try clear hk); (try clear hi))); try go_wp2_with (first | (go_at_call 9; (with_reducible refine (freshetlaw13_awake.calls k  false _ ?side1 A2.out).mono ?_); (case side1 => first | exact HT.out | exact tab_at HT.out (by repeat (first | (with_reducible first | exact HB.out | apply below_alloc | apply pw_below_drewN | apply below_drew1) | exact HB.out)) | (repeat (first | exact HT.out | refine tab_drewN ?_ | refine tab_drew ?_))); rintro e w70 ⟨rfl, hb⟩; have n0_ := Aside0.mk (below_step (by repeat (first | (with_reducible first | exact HB.out | apply below_alloc | apply pw_below_drewN | apply below_drew1) | exact HB.out)) hb); clear HB; have HB := n0_; clear n0_; (try clear hb); (try clear hb2); (try clear hk); (try clear hi))))
    go_ret
    exact ⟨by first | rfl | (simp [errW_none, errW_some] <;> rfl) | (simp [*, errW_none, errW_some] <;> rfl), by repeat (first | (with_reducible first | exact HB.out | apply below_alloc | apply pw_below_drewN | apply below_drew1) | exact HB.out)⟩

end Go.Proofs.YtlaafpbhhnehgaaDoor.PLX
