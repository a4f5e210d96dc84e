/- Walks of functions of this translation, written by a program (wip/tools/xprint.py, out of the kit's print). -/
import Derived.Test.YthpkjkcfhipjhaaDoorPRJx0
import Derived.Test.YthpkjkcfhipjhaaDoorPRJx1
import Derived.Test.YthpkjkcfhipjhaaDoorXR
import Derived.Test.YthpkjkcfhipjhaaDoorR11
import Derived.Test.YthpkjkcfhipjhaaDoorPRWx
import Derived.Test.YthpkjkcfhipjhaaDoorXA
namespace Go.Proofs.YthpkjkcfhipjhaaDoor.PRJ
open Go.RowKit Go.Proofs.YthpkjkcfhipjhaaDoorW.PrintWords Go.Proofs.YthpkjkcfhipjhaaDoorW.PrintLast Go.Proofs.YthpkjkcfhipjhaaDoor.PRW
set_option linter.unusedVariables false
set_option linter.unusedSimpArgs false

attribute [local go_sem high] eqA56
-- outside: xAwake2

-- outside: xEncode

-- outside: row_Pick

/-! ### freshetlaw02_RowJoins: function 9 -/
mutual
def freshetlaw02_RowJoins.j0 : Nat → List (S56) → List (S56) → List Int → ByteArray → ByteArray → Bool → Option (Bool)
  | 0, _, _, _, _, _, _ => none
  | k + 1, x0, x1, x2, x7, x9, x46 => if x46 = true then (some true) else (if 0 ≤ (wrap64 ((wrap64 ((x0.length : Int) + (x1.length : Int))) + 1)) then (if (wrap64 ((wrap64 ((x0.length : Int) + (x1.length : Int))) + 1) : Int).toNat ≤ 7036874417766 then ((some (([] : List (S56)) : List (S56))).bind fun y106 => (if y106.length + x0.length < 3518437208883 then ((some (y106 ++ x0 : List (S56))).bind fun y109 => (if y109.length + x1.length < 3518437208883 then ((some (y109 ++ x1 : List (S56))).bind fun y112 => (if y112.length < 3518437208883 then ((some (y112 ++ [(⟨77, 0, 0, (⟨#[]⟩ : ByteArray)⟩ : S56)] : List (S56))).bind fun y115 => (if 0 ≤ (wrap64 ((x0.length : Int) + (x1.length : Int))) then (if (wrap64 ((x0.length : Int) + (x1.length : Int))) ≤ (y115.length : Int) then ((xEncode.f (y115.take ((wrap64 ((x0.length : Int) + (x1.length : Int))) : Int).toNat)).bind fun bt122 => (if bt122.2 = 0 then (if x7.size + x9.size ≤ 9223372036854775807 then (if bt122.1.toList = (x7 ++ x9).toList then (if (wrap64 ((x0.length : Int) + (x1.length : Int))) < (y115.length : Int) then (freshetlaw02_RowJoins.j1 k x0 x2 x7 (((rd_T56 y115 (wrap64 ((x0.length : Int) + (x1.length : Int)))).f0) != 77)) else (none)) else (freshetlaw02_RowJoins.j1 k x0 x2 x7 true)) else (none)) else (freshetlaw02_RowJoins.j1 k x0 x2 x7 true))) else (none)) else (none))) else (none))) else (none))) else (none))) else (none)) else (none))
def freshetlaw02_RowJoins.j1 : Nat → List (S56) → List Int → ByteArray → Bool → Option (Bool)
  | 0, _, _, _, _ => none
  | k + 1, x0, x2, x7, x95 => if x95 = true then (some false) else ((row_Pick.f k x0 x2).bind fun bt125 => (if bt125.2 = 0 then (freshetlaw02_RowJoins.l0 k x0 x2 x7 bt125.1 0) else (some ((bt125.1.length : Int) == 0))))
def freshetlaw02_RowJoins.l0 : Nat → List (S56) → List Int → ByteArray → List (S56) → Int → Option (Bool)
  | 0, _, _, _, _, _ => none
  | k + 1, x0, x2, x7, x14, x16 => if x16 < (x2.length : Int) then (if 0 ≤ x16 then (if (rd x2 x16) < 0 then (some false) else (if (rd x2 x16) ≥ (x0.length : Int) then (some false) else (if x16 < (x14.length : Int) then (if 0 ≤ (rd x2 x16) then (if (rd x2 x16) < (x0.length : Int) then (if (!(((rd_T56 x14 x16).f0) == ((rd_T56 x0 (rd x2 x16)).f0)) || (!(((rd_T56 x14 x16).f1) == ((rd_T56 x0 (rd x2 x16)).f1)) || (!(((rd_T56 x14 x16).f2) == ((rd_T56 x0 (rd x2 x16)).f2)) || (!((((rd_T56 x14 x16).f3).toList) == (((rd_T56 x0 (rd x2 x16)).f3).toList)))))) = true then (some false) else (freshetlaw02_RowJoins.l0 k x0 x2 x7 (x14.set (x16 : Int).toNat (⟨78, 0, 0, (⟨#[]⟩ : ByteArray)⟩ : S56)) (wrap64 (x16 + 1)))) else (none)) else (none)) else (none)))) else (none)) else ((xEncode.f x0).bind fun bt135 => (if (x14.length : Int) = (x2.length : Int) then (some (bt135.1.toList == x7.toList)) else (some false)))
end
def freshetlaw02_RowJoins.f (k : Nat) (l0 : List (S56)) (l1 : List (S56)) (l2 : List Int) : Option (Bool) := (xAwake2.f).bind fun t101 => (if t101 = true then ((xEncode.f l0).bind fun bt102 => ((xEncode.f l1).bind fun bt104 => (if bt102.2 = 0 then (if bt104.2 = 0 then (if (l0.length : Int) > 400 then (freshetlaw02_RowJoins.j0 k l0 l1 l2 bt102.1 bt104.1 true) else (freshetlaw02_RowJoins.j0 k l0 l1 l2 bt102.1 bt104.1 (decide ((l1.length : Int) > 400)))) else (freshetlaw02_RowJoins.j0 k l0 l1 l2 bt102.1 bt104.1 true)) else (freshetlaw02_RowJoins.j0 k l0 l1 l2 bt102.1 bt104.1 true)))) else (some false))
theorem freshetlaw02_RowJoins.mono_l : ∀ k, (∀ y0 y1 y2 y3 y4 y5, LeO (freshetlaw02_RowJoins.j0 k y0 y1 y2 y3 y4 y5) (freshetlaw02_RowJoins.j0 (k + 1) y0 y1 y2 y3 y4 y5)) ∧ (∀ y0 y1 y2 y3, LeO (freshetlaw02_RowJoins.j1 k y0 y1 y2 y3) (freshetlaw02_RowJoins.j1 (k + 1) y0 y1 y2 y3)) ∧ (∀ y0 y1 y2 y3 y4, LeO (freshetlaw02_RowJoins.l0 k y0 y1 y2 y3 y4) (freshetlaw02_RowJoins.l0 (k + 1) y0 y1 y2 y3 y4))
  | 0 => ⟨fun _ _ _ _ _ _ r h => by simp [freshetlaw02_RowJoins.j0] at h, fun _ _ _ _ r h => by simp [freshetlaw02_RowJoins.j1] at h, fun _ _ _ _ _ r h => by simp [freshetlaw02_RowJoins.l0] at h⟩
  | k + 1 => by
    obtain ⟨ih0, ih1, ih2⟩ := freshetlaw02_RowJoins.mono_l k
    refine ⟨?_, ?_, ?_⟩
    · intro y0 y1 y2 y3 y4 y5
      unfold freshetlaw02_RowJoins.j0
      repeat' first
      | (with_reducible exact ih0 _ _ _ _ _ _)
      | (with_reducible exact ih1 _ _ _ _)
      | (with_reducible exact ih2 _ _ _ _ _)
      | (with_reducible exact row_Pick.mono _ _ _)
      | (with_reducible exact LeO.refl _)
      | (with_reducible exact LeO.none _)
      | (with_reducible refine LeO.ite ?_ ?_)
      | (with_reducible refine LeO.bind ?_ (fun _ => ?_))
      | exact ih0 _ _ _ _ _ _
      | exact ih1 _ _ _ _
      | exact ih2 _ _ _ _ _
      | exact row_Pick.mono _ _ _
      | exact LeO.none _
      | refine LeO.ite ?_ ?_
      | refine LeO.bind ?_ (fun _ => ?_)
    · intro y0 y1 y2 y3
      unfold freshetlaw02_RowJoins.j1
      repeat' first
      | (with_reducible exact ih0 _ _ _ _ _ _)
      | (with_reducible exact ih1 _ _ _ _)
      | (with_reducible exact ih2 _ _ _ _ _)
      | (with_reducible exact row_Pick.mono _ _ _)
      | (with_reducible exact LeO.refl _)
      | (with_reducible exact LeO.none _)
      | (with_reducible refine LeO.ite ?_ ?_)
      | (with_reducible refine LeO.bind ?_ (fun _ => ?_))
      | exact ih0 _ _ _ _ _ _
      | exact ih1 _ _ _ _
      | exact ih2 _ _ _ _ _
      | exact row_Pick.mono _ _ _
      | exact LeO.none _
      | refine LeO.ite ?_ ?_
      | refine LeO.bind ?_ (fun _ => ?_)
    · intro y0 y1 y2 y3 y4
      unfold freshetlaw02_RowJoins.l0
      repeat' first
      | (with_reducible exact ih0 _ _ _ _ _ _)
      | (with_reducible exact ih1 _ _ _ _)
      | (with_reducible exact ih2 _ _ _ _ _)
      | (with_reducible exact row_Pick.mono _ _ _)
      | (with_reducible exact LeO.refl _)
      | (with_reducible exact LeO.none _)
      | (with_reducible refine LeO.ite ?_ ?_)
      | (with_reducible refine LeO.bind ?_ (fun _ => ?_))
      | exact ih0 _ _ _ _ _ _
      | exact ih1 _ _ _ _
      | exact ih2 _ _ _ _ _
      | exact row_Pick.mono _ _ _
      | exact LeO.none _
      | refine LeO.ite ?_ ?_
      | refine LeO.bind ?_ (fun _ => ?_)
theorem freshetlaw02_RowJoins.mono : ∀ a0 a1 a2 k, LeO (freshetlaw02_RowJoins.f k a0 a1 a2) (freshetlaw02_RowJoins.f (k + 1) a0 a1 a2) := by
  intro a0 a1 a2 k
  obtain ⟨ih0, ih1, ih2⟩ := freshetlaw02_RowJoins.mono_l k
  unfold freshetlaw02_RowJoins.f
  repeat' first
      | (with_reducible exact ih0 _ _ _ _ _ _)
      | (with_reducible exact ih1 _ _ _ _)
      | (with_reducible exact ih2 _ _ _ _ _)
      | (with_reducible exact row_Pick.mono _ _ _)
      | (with_reducible exact LeO.refl _)
      | (with_reducible exact LeO.none _)
      | (with_reducible refine LeO.ite ?_ ?_)
      | (with_reducible refine LeO.bind ?_ (fun _ => ?_))
      | exact ih0 _ _ _ _ _ _
      | exact ih1 _ _ _ _
      | exact ih2 _ _ _ _ _
      | exact row_Pick.mono _ _ _
      | exact LeO.none _
      | refine LeO.ite ?_ ?_
      | refine LeO.bind ?_ (fun _ => ?_)
set_option maxHeartbeats 8000000 in
set_option maxRecDepth 100000 in
theorem freshetlaw02_RowJoins.calls (k : Nat) (A0 : Option Addr) (c0 : Nat) (l0 : List (S56)) (A1 : Option Addr) (c1 : Nat) (l1 : List (S56)) (A2 : Option Addr) (c2 : Nat) (l2 : List Int) (r : Bool) (w : World) (hr0 : Kd.C k56 w A0 l0.length l0) (hc0 : l0.length ≤ c0) (hr1 : Kd.C k56 w A1 l1.length l1) (hc1 : l1.length ≤ c1) (hr2 : Kd.C (Kd.int .i64) w A2 l2.length l2) (hc2 : l2.length ≤ c2) (hT : RTab w) (h : freshetlaw02_RowJoins.f k l0 l1 l2 = some r) :
    Calls Tryd.prog 9 #[.slice A0 l0.length c0, .slice A1 l1.length c1, .slice A2 l2.length c2] w fun e w' => e = .returned (.bool r) ∧ Below w.heap.size w w' := by
  have hu56 := Tryd.underlying56
  have HR0 := Aside0.mk hr0
  have HC0 := Aside0.mk hc0
  clear hr0 hc0
  have HR1 := Aside0.mk hr1
  have HC1 := Aside0.mk hc1
  clear hr1 hc1
  have HR2 := Aside0.mk hr2
  have HC2 := Aside0.mk hc2
  clear hr2 hc2
  have HB := Aside0.mk (Below.refl w.heap.size w)
  have HT := Aside0.mk hT
  clear hT
  have H : ((xAwake2.f).bind fun t101 => (if t101 = true then ((xEncode.f l0).bind fun bt102 => ((xEncode.f l1).bind fun bt104 => (if bt102.2 = 0 then (if bt104.2 = 0 then (if (l0.length : Int) > 400 then (freshetlaw02_RowJoins.j0 k l0 l1 l2 bt102.1 bt104.1 true) else (freshetlaw02_RowJoins.j0 k l0 l1 l2 bt102.1 bt104.1 (decide ((l1.length : Int) > 400)))) else (freshetlaw02_RowJoins.j0 k l0 l1 l2 bt102.1 bt104.1 true)) else (freshetlaw02_RowJoins.j0 k l0 l1 l2 bt102.1 bt104.1 true)))) else (some false))) = some r := h
  clear h
  replace H := Option.bind_eq_some_iff.mp H
  obtain ⟨t101, A40, H⟩ := H
  replace H : (if t101 = true then ((xEncode.f l0).bind fun bt102 => ((xEncode.f l1).bind fun bt104 => (if bt102.2 = 0 then (if bt104.2 = 0 then (if (l0.length : Int) > 400 then (freshetlaw02_RowJoins.j0 k l0 l1 l2 bt102.1 bt104.1 true) else (freshetlaw02_RowJoins.j0 k l0 l1 l2 bt102.1 bt104.1 (decide ((l1.length : Int) > 400)))) else (freshetlaw02_RowJoins.j0 k l0 l1 l2 bt102.1 bt104.1 true)) else (freshetlaw02_RowJoins.j0 k l0 l1 l2 bt102.1 bt104.1 true)))) else (some false)) = some r := H
  have A4 := Aside0.mk A40
  clear A40
  by_cases c5 : t101 = true
  · subst c5
    have H1 : ((xEncode.f l0).bind fun bt102 => ((xEncode.f l1).bind fun bt104 => (if bt102.2 = 0 then (if bt104.2 = 0 then (if (l0.length : Int) > 400 then (freshetlaw02_RowJoins.j0 k l0 l1 l2 bt102.1 bt104.1 true) else (freshetlaw02_RowJoins.j0 k l0 l1 l2 bt102.1 bt104.1 (decide ((l1.length : Int) > 400)))) else (freshetlaw02_RowJoins.j0 k l0 l1 l2 bt102.1 bt104.1 true)) else (freshetlaw02_RowJoins.j0 k l0 l1 l2 bt102.1 bt104.1 true)))) = some r := by rw [if_pos rfl] at H; exact H
    clear H
    have H := H1
    clear H1
    replace H := Option.bind_eq_some_iff.mp H
    obtain ⟨⟨t102, t103⟩, A60, H⟩ := H
    replace H : ((xEncode.f l1).bind fun bt104 => (if t103 = 0 then (if bt104.2 = 0 then (if (l0.length : Int) > 400 then (freshetlaw02_RowJoins.j0 k l0 l1 l2 t102 bt104.1 true) else (freshetlaw02_RowJoins.j0 k l0 l1 l2 t102 bt104.1 (decide ((l1.length : Int) > 400)))) else (freshetlaw02_RowJoins.j0 k l0 l1 l2 t102 bt104.1 true)) else (freshetlaw02_RowJoins.j0 k l0 l1 l2 t102 bt104.1 true))) = some r := H
    have A6 := Aside0.mk A60
    clear A60
    replace H := Option.bind_eq_some_iff.mp H
    obtain ⟨⟨t104, t105⟩, A70, H⟩ := H
    replace H : (if t103 = 0 then (if t105 = 0 then (if (l0.length : Int) > 400 then (freshetlaw02_RowJoins.j0 k l0 l1 l2 t102 t104 true) else (freshetlaw02_RowJoins.j0 k l0 l1 l2 t102 t104 (decide ((l1.length : Int) > 400)))) else (freshetlaw02_RowJoins.j0 k l0 l1 l2 t102 t104 true)) else (freshetlaw02_RowJoins.j0 k l0 l1 l2 t102 t104 true)) = some r := H
    have A7 := Aside0.mk A70
    clear A70
    have HC8 := Aside0.mk H
    clear H
    go_enter Tryd.func9, Tryd.ntmps9
    go_upto_region 5 with (first | (go_at_call 23; (with_reducible refine (xAwake2.calls  true _ ?side1 A4.out).mono ?_); (case side1 => first | exact HT.out | exact tab_at HT.out (by repeat (first | (with_reducible first | exact HB.out | apply below_alloc | apply pw_below_drewN | apply below_drew1) | exact HB.out)) | (repeat (first | exact HT.out | refine tab_drewN ?_ | refine tab_drew ?_))); rintro e w9 ⟨rfl, hb⟩; have n0_ := Aside0.mk (below_step (by repeat (first | (with_reducible first | exact HB.out | apply below_alloc | apply pw_below_drewN | apply below_drew1) | exact HB.out)) hb); clear HB; have HB := n0_; clear n0_; (try clear hb); (try clear hb2); (try clear hk); (try clear hi)) | (go_at_call 27; (with_reducible refine (xEncode.calls _ _ l0 t102 t103 _ ?side1 ?side2 ?side3 A6.out).mono ?_); (case side1 => repeat (first | exact (Kd.C_below HR0.out HB.out) | (with_reducible refine Kd.C_alloc ?_ _) | (with_reducible refine Kd.C_drewN ?_ _) | (with_reducible refine Kd.C_drew ?_))); (case side2 => exact HC0.out); (case side3 => first | exact HT.out | exact tab_at HT.out (by repeat (first | (with_reducible first | exact HB.out | apply below_alloc | apply pw_below_drewN | apply below_drew1) | exact HB.out)) | (repeat (first | exact HT.out | refine tab_drewN ?_ | refine tab_drew ?_))); rintro e w10 ⟨rfl, hb⟩; have n0_ := Aside0.mk (below_step (by repeat (first | (with_reducible first | exact HB.out | apply below_alloc | apply pw_below_drewN | apply below_drew1) | exact HB.out)) hb); clear HB; have HB := n0_; clear n0_; (try clear hb); (try clear hb2); (try clear hk); (try clear hi)) | (go_at_call 27; (with_reducible refine (xEncode.calls _ _ l1 t104 t105 _ ?side1 ?side2 ?side3 A7.out).mono ?_); (case side1 => repeat (first | exact (Kd.C_below HR1.out HB.out) | (with_reducible refine Kd.C_alloc ?_ _) | (with_reducible refine Kd.C_drewN ?_ _) | (with_reducible refine Kd.C_drew ?_))); (case side2 => exact HC1.out); (case side3 => first | exact HT.out | exact tab_at HT.out (by repeat (first | (with_reducible first | exact HB.out | apply below_alloc | apply pw_below_drewN | apply below_drew1) | exact HB.out)) | (repeat (first | exact HT.out | refine tab_drewN ?_ | refine tab_drew ?_))); rintro e w11 ⟨rfl, hb⟩; have n0_ := Aside0.mk (below_step (by repeat (first | (with_reducible first | exact HB.out | apply below_alloc | apply pw_below_drewN | apply below_drew1) | exact HB.out)) hb); clear HB; have HB := n0_; clear n0_; (try clear hb); (try clear hb2); (try clear hk); (try clear hi)))
    repeat (go_quiet (first | (go_at_call 23; (with_reducible refine (xAwake2.calls  true _ ?side1 A4.out).mono ?_); (case side1 => first | exact HT.out | exact tab_at HT.out (by repeat (first | (with_reducible first | exact HB.out | apply below_alloc | apply pw_below_drewN | apply below_drew1) | exact HB.out)) | (repeat (first | exact HT.out | refine tab_drewN ?_ | refine tab_drew ?_))); rintro e w9 ⟨rfl, hb⟩; have n0_ := Aside0.mk (below_step (by repeat (first | (with_reducible first | exact HB.out | apply below_alloc | apply pw_below_drewN | apply below_drew1) | exact HB.out)) hb); clear HB; have HB := n0_; clear n0_; (try clear hb); (try clear hb2); (try clear hk); (try clear hi)) | (go_at_call 27; (with_reducible refine (xEncode.calls _ _ l0 t102 t103 _ ?side1 ?side2 ?side3 A6.out).mono ?_); (case side1 => repeat (first | exact (Kd.C_below HR0.out HB.out) | (with_reducible refine Kd.C_alloc ?_ _) | (with_reducible refine Kd.C_drewN ?_ _) | (with_reducible refine Kd.C_drew ?_))); (case side2 => exact HC0.out); (case side3 => first | exact HT.out | exact tab_at HT.out (by repeat (first | (with_reducible first | exact HB.out | apply below_alloc | apply pw_below_drewN | apply below_drew1) | exact HB.out)) | (repeat (first | exact HT.out | refine tab_drewN ?_ | refine tab_drew ?_))); rintro e w10 ⟨rfl, hb⟩; have n0_ := Aside0.mk (below_step (by repeat (first | (with_reducible first | exact HB.out | apply below_alloc | apply pw_below_drewN | apply below_drew1) | exact HB.out)) hb); clear HB; have HB := n0_; clear n0_; (try clear hb); (try clear hb2); (try clear hk); (try clear hi)) | (go_at_call 27; (with_reducible refine (xEncode.calls _ _ l1 t104 t105 _ ?side1 ?side2 ?side3 A7.out).mono ?_); (case side1 => repeat (first | exact (Kd.C_below HR1.out HB.out) | (with_reducible refine Kd.C_alloc ?_ _) | (with_reducible refine Kd.C_drewN ?_ _) | (with_reducible refine Kd.C_drew ?_))); (case side2 => exact HC1.out); (case side3 => first | exact HT.out | exact tab_at HT.out (by repeat (first | (with_reducible first | exact HB.out | apply below_alloc | apply pw_below_drewN | apply below_drew1) | exact HB.out)) | (repeat (first | exact HT.out | refine tab_drewN ?_ | refine tab_drew ?_))); rintro e w11 ⟨rfl, hb⟩; have n0_ := Aside0.mk (below_step (by repeat (first | (with_reducible first | exact HB.out | apply below_alloc | apply pw_below_drewN | apply below_drew1) | exact HB.out)) hb); clear HB; have HB := n0_; clear n0_; (try clear hb); (try clear hb2); (try clear hk); (try clear hi))); go_upto_region 5 with (first | (go_at_call 23; (with_reducible refine (xAwake2.calls  true _ ?side1 A4.out).mono ?_); (case side1 => first | exact HT.out | exact tab_at HT.out (by repeat (first | (with_reducible first | exact HB.out | apply below_alloc | apply pw_below_drewN | apply below_drew1) | exact HB.out)) | (repeat (first | exact HT.out | refine tab_drewN ?_ | refine tab_drew ?_))); rintro e w9 ⟨rfl, hb⟩; have n0_ := Aside0.mk (below_step (by repeat (first | (with_reducible first | exact HB.out | apply below_alloc | apply pw_below_drewN | apply below_drew1) | exact HB.out)) hb); clear HB; have HB := n0_; clear n0_; (try clear hb); (try clear hb2); (try clear hk); (try clear hi)) | (go_at_call 27; (with_reducible refine (xEncode.calls _ _ l0 t102 t103 _ ?side1 ?side2 ?side3 A6.out).mono ?_); (case side1 => repeat (first | exact (Kd.C_below HR0.out HB.out) | (with_reducible refine Kd.C_alloc ?_ _) | (with_reducible refine Kd.C_drewN ?_ _) | (with_reducible refine Kd.C_drew ?_))); (case side2 => exact HC0.out); (case side3 => first | exact HT.out | exact tab_at HT.out (by repeat (first | (with_reducible first | exact HB.out | apply below_alloc | apply pw_below_drewN | apply below_drew1) | exact HB.out)) | (repeat (first | exact HT.out | refine tab_drewN ?_ | refine tab_drew ?_))); rintro e w10 ⟨rfl, hb⟩; have n0_ := Aside0.mk (below_step (by repeat (first | (with_reducible first | exact HB.out | apply below_alloc | apply pw_below_drewN | apply below_drew1) | exact HB.out)) hb); clear HB; have HB := n0_; clear n0_; (try clear hb); (try clear hb2); (try clear hk); (try clear hi)) | (go_at_call 27; (with_reducible refine (xEncode.calls _ _ l1 t104 t105 _ ?side1 ?side2 ?side3 A7.out).mono ?_); (case side1 => repeat (first | exact (Kd.C_below HR1.out HB.out) | (with_reducible refine Kd.C_alloc ?_ _) | (with_reducible refine Kd.C_drewN ?_ _) | (with_reducible refine Kd.C_drew ?_))); (case side2 => exact HC1.out); (case side3 => first | exact HT.out | exact tab_at HT.out (by repeat (first | (with_reducible first | exact HB.out | apply below_alloc | apply pw_below_drewN | apply below_drew1) | exact HB.out)) | (repeat (first | exact HT.out | refine tab_drewN ?_ | refine tab_drew ?_))); rintro e w11 ⟨rfl, hb⟩; have n0_ := Aside0.mk (below_step (by repeat (first | (with_reducible first | exact HB.out | apply below_alloc | apply pw_below_drewN | apply below_drew1) | exact HB.out)) hb); clear HB; have HB := n0_; clear n0_; (try clear hb); (try clear hb2); (try clear hk); (try clear hi))))
    (try simp only [Act.put, List.setIfInBounds_toArray, List.set_cons_zero, List.set_cons_succ])
    go_cut [46] (fun v46 wc => ∃ (kq : Nat) (x46_7 : Bool), v46 = .bool x46_7 ∧ Aside0 (freshetlaw02_RowJoins.j0 kq l0 l1 l2 t102 t104 x46_7 = some r) ∧ Aside0 (kq ≤ k) ∧ Aside0 (Below w.heap.size w wc))
    case first =>
      have H := HC8.out
      clear HC8
      by_cases c12 : t103 = 0
      · rw [if_pos c12] at H
        have c12b0 : (t103 == 0) = true := beq_iff_eq.mpr c12
        have c12b1 : (t103 != 0) = false := bne_eq_false_iff_eq.mpr c12
        clear c12
        (first | rw [c12b0] | (simp only [i64_w, i32_w]; rw [c12b0]) | skip)
        by_cases c13 : t105 = 0
        · rw [if_pos c13] at H
          have c13b0 : (t105 == 0) = true := beq_iff_eq.mpr c13
          have c13b1 : (t105 != 0) = false := bne_eq_false_iff_eq.mpr c13
          clear c13
          by_cases c14 : (l0.length : Int) > 400
          · rw [if_pos c14] at H
            have c14b0 : decide (400 < (l0.length : Int)) = true := decide_eq_true c14
            have c14b1 : decide (400 < l0.length) = true := decide_eq_true (by omega)
            clear c14
            have H' := Aside0.mk H
            clear H
            go_wp2
            repeat (go_quiet (fail); try go_wp2)
            go_meet
            case rel => exact ⟨_, (true), (by first | rfl | (simp; done) | (simp [*]; done)), H', ⟨by first | omega | exact Nat.le_refl _⟩, ⟨by repeat (first | (with_reducible first | exact HB.out | apply below_alloc | apply pw_below_drewN | apply below_drew1) | exact HB.out)⟩⟩
          · rw [if_neg c14] at H
            have c14b0 : decide (400 < (l0.length : Int)) = false := decide_eq_false c14
            have c14b1 : decide (400 < l0.length) = false := decide_eq_false (by omega)
            clear c14
            have H' := Aside0.mk H
            clear H
            go_wp2
            repeat (go_quiet (fail); try go_wp2)
            go_meet
            case rel => exact ⟨_, (decide ((l1.length : Int) > 400)), (by first | rfl | (simp; done) | (simp [*]; done)), H', ⟨by first | omega | exact Nat.le_refl _⟩, ⟨by repeat (first | (with_reducible first | exact HB.out | apply below_alloc | apply pw_below_drewN | apply below_drew1) | exact HB.out)⟩⟩
        · rw [if_neg c13] at H
          have c13b0 : (t105 == 0) = false := beq_eq_false_iff_ne.mpr c13
          have c13b1 : (t105 != 0) = true := bne_iff_ne.mpr c13
          have H' := Aside0.mk H
          clear H
          go_wp2
          repeat (go_quiet (fail); try go_wp2)
          go_meet
          case rel => exact ⟨_, (true), (by first | rfl | (simp; done) | (simp [*]; done)), H', ⟨by first | omega | exact Nat.le_refl _⟩, ⟨by repeat (first | (with_reducible first | exact HB.out | apply below_alloc | apply pw_below_drewN | apply below_drew1) | exact HB.out)⟩⟩
      · rw [if_neg c12] at H
        have c12b0 : (t103 == 0) = false := beq_eq_false_iff_ne.mpr c12
        have c12b1 : (t103 != 0) = true := bne_iff_ne.mpr c12
        (first | rw [c12b0] | (simp only [i64_w, i32_w]; rw [c12b0]) | skip)
        have H' := Aside0.mk H
        clear H
        go_wp2
        repeat (go_quiet (fail); try go_wp2)
        go_meet
        case rel => exact ⟨_, (true), (by first | rfl | (simp; done) | (simp [*]; done)), H', ⟨by first | omega | exact Nat.le_refl _⟩, ⟨by repeat (first | (with_reducible first | exact HB.out | apply below_alloc | apply pw_below_drewN | apply below_drew1) | exact HB.out)⟩⟩
    case rest =>
      clear HC8
      try clear c1
      try clear c2
      try clear p2
      try clear c5
      try clear c9
      try clear c12
      try clear c12b0
      try clear c12b1
      try clear c13
      try clear c13b0
      try clear c13b1
      try clear c14
      try clear c14b0
      try clear c14b1
      obtain ⟨kq, x46_7, rfl, HA, HJ7, HB⟩ := hcut
      cases kq with
      | zero => exact absurd HA.out (by simp [freshetlaw02_RowJoins.j0])
      | succ kj7 =>
        have H := HA.out
        clear HA
        simp only [freshetlaw02_RowJoins.j0] at H
        by_cases c15 : x46_7 = true
        · subst c15
          have H1 : (some true) = some r := by rw [if_pos rfl] at H; exact H
          clear H
          have H := H1
          clear H1
          obtain rfl := Option.some.inj H
          go_wp2
          repeat (go_quiet (fail); try go_wp2)
          go_ret
          exact ⟨by first | rfl | (simp [errW_none, errW_some] <;> rfl) | (simp [*, errW_none, errW_some] <;> rfl), by repeat (first | (with_reducible first | exact HB.out | apply below_alloc | apply pw_below_drewN | apply below_drew1) | exact HB.out)⟩
        · replace c15 := Bool.eq_false_iff.mpr c15
          subst c15
          have H1 : (if 0 ≤ (wrap64 ((wrap64 ((l0.length : Int) + (l1.length : Int))) + 1)) then (if (wrap64 ((wrap64 ((l0.length : Int) + (l1.length : Int))) + 1) : Int).toNat ≤ 7036874417766 then ((some (([] : List (S56)) : List (S56))).bind fun y106 => (if y106.length + l0.length < 3518437208883 then ((some (y106 ++ l0 : List (S56))).bind fun y109 => (if y109.length + l1.length < 3518437208883 then ((some (y109 ++ l1 : List (S56))).bind fun y112 => (if y112.length < 3518437208883 then ((some (y112 ++ [(⟨77, 0, 0, (⟨#[]⟩ : ByteArray)⟩ : S56)] : List (S56))).bind fun y115 => (if 0 ≤ (wrap64 ((l0.length : Int) + (l1.length : Int))) then (if (wrap64 ((l0.length : Int) + (l1.length : Int))) ≤ (y115.length : Int) then ((xEncode.f (y115.take ((wrap64 ((l0.length : Int) + (l1.length : Int))) : Int).toNat)).bind fun bt122 => (if bt122.2 = 0 then (if t102.size + t104.size ≤ 9223372036854775807 then (if bt122.1.toList = (t102 ++ t104).toList then (if (wrap64 ((l0.length : Int) + (l1.length : Int))) < (y115.length : Int) then (freshetlaw02_RowJoins.j1 kj7 l0 l2 t102 (((rd_T56 y115 (wrap64 ((l0.length : Int) + (l1.length : Int)))).f0) != 77)) else (none)) else (freshetlaw02_RowJoins.j1 kj7 l0 l2 t102 true)) else (none)) else (freshetlaw02_RowJoins.j1 kj7 l0 l2 t102 true))) else (none)) else (none))) else (none))) else (none))) else (none))) else (none)) else (none)) = some r := by rw [if_neg (show ¬ (false = true) by decide)] at H; exact H
          clear H
          have H := H1
          clear H1
          obtain ⟨ji16, hji16⟩ : ∃ j_ : Int, (wrap64 ((wrap64 ((l0.length : Int) + (l1.length : Int))) + 1)) = j_ := ⟨_, rfl⟩
          replace H : (if 0 ≤ (ji16) then (if (ji16 : Int).toNat ≤ 7036874417766 then ((some (([] : List (S56)) : List (S56))).bind fun y106 => (if y106.length + l0.length < 3518437208883 then ((some (y106 ++ l0 : List (S56))).bind fun y109 => (if y109.length + l1.length < 3518437208883 then ((some (y109 ++ l1 : List (S56))).bind fun y112 => (if y112.length < 3518437208883 then ((some (y112 ++ [(⟨77, 0, 0, (⟨#[]⟩ : ByteArray)⟩ : S56)] : List (S56))).bind fun y115 => (if 0 ≤ (wrap64 ((l0.length : Int) + (l1.length : Int))) then (if (wrap64 ((l0.length : Int) + (l1.length : Int))) ≤ (y115.length : Int) then ((xEncode.f (y115.take ((wrap64 ((l0.length : Int) + (l1.length : Int))) : Int).toNat)).bind fun bt122 => (if bt122.2 = 0 then (if t102.size + t104.size ≤ 9223372036854775807 then (if bt122.1.toList = (t102 ++ t104).toList then (if (wrap64 ((l0.length : Int) + (l1.length : Int))) < (y115.length : Int) then (freshetlaw02_RowJoins.j1 kj7 l0 l2 t102 (((rd_T56 y115 (wrap64 ((l0.length : Int) + (l1.length : Int)))).f0) != 77)) else (none)) else (freshetlaw02_RowJoins.j1 kj7 l0 l2 t102 true)) else (none)) else (freshetlaw02_RowJoins.j1 kj7 l0 l2 t102 true))) else (none)) else (none))) else (none))) else (none))) else (none))) else (none)) else (none)) = some r := by first | (rw [hji16] at H; exact H) | (simp only [hji16] at H ⊢; exact H)
          have hji16w : (IntKind.i64.wrap ((wrap64 ((l0.length : Int) + (l1.length : Int))) + 1)) = ji16 := (i64_w _).trans hji16
          by_cases c17 : 0 ≤ (ji16)
          · rw [if_pos c17] at H
            have c17b0 := eq_true c17
            have c17b1 : decide (0 ≤ (ji16)) = true := decide_eq_true c17
            clear c17
            by_cases c18 : (ji16 : Int).toNat ≤ 7036874417766
            · rw [if_pos c18] at H
              have c18b0 := eq_true c18
              have c18b1 : decide ((ji16 : Int).toNat ≤ 7036874417766) = true := decide_eq_true c18
              clear c18
              obtain ⟨y106, hy106⟩ : ∃ y_ : List (S56), y_ = (([] : List (S56))) := ⟨_, rfl⟩
              replace H : (if y106.length + l0.length < 3518437208883 then ((some (y106 ++ l0 : List (S56))).bind fun y109 => (if y109.length + l1.length < 3518437208883 then ((some (y109 ++ l1 : List (S56))).bind fun y112 => (if y112.length < 3518437208883 then ((some (y112 ++ [(⟨77, 0, 0, (⟨#[]⟩ : ByteArray)⟩ : S56)] : List (S56))).bind fun y115 => (if 0 ≤ (wrap64 ((l0.length : Int) + (l1.length : Int))) then (if (wrap64 ((l0.length : Int) + (l1.length : Int))) ≤ (y115.length : Int) then ((xEncode.f (y115.take ((wrap64 ((l0.length : Int) + (l1.length : Int))) : Int).toNat)).bind fun bt122 => (if bt122.2 = 0 then (if t102.size + t104.size ≤ 9223372036854775807 then (if bt122.1.toList = (t102 ++ t104).toList then (if (wrap64 ((l0.length : Int) + (l1.length : Int))) < (y115.length : Int) then (freshetlaw02_RowJoins.j1 kj7 l0 l2 t102 (((rd_T56 y115 (wrap64 ((l0.length : Int) + (l1.length : Int)))).f0) != 77)) else (none)) else (freshetlaw02_RowJoins.j1 kj7 l0 l2 t102 true)) else (none)) else (freshetlaw02_RowJoins.j1 kj7 l0 l2 t102 true))) else (none)) else (none))) else (none))) else (none))) else (none)) = some r := by first | (rw [hy106]; with_reducible exact H) | (have H2_ := (Option.bind_some _ _).symm.trans H; rw [hy106]; with_reducible exact H2_) | (have H2_ := (Option.bind_some _ _).symm.trans H; with_reducible exact H2_) | with_reducible exact H | (rw [hy106]; exact H) | exact H
              have Ny106 := Aside0.mk hy106
              clear hy106
              by_cases c19 : y106.length + l0.length < 3518437208883
              · rw [if_pos c19] at H
                have LMc19 := Aside0.mk c19
                clear c19
                obtain ⟨y109, hy109⟩ : ∃ y_ : List (S56), y_ = (y106 ++ l0) := ⟨_, rfl⟩
                replace H : (if y109.length + l1.length < 3518437208883 then ((some (y109 ++ l1 : List (S56))).bind fun y112 => (if y112.length < 3518437208883 then ((some (y112 ++ [(⟨77, 0, 0, (⟨#[]⟩ : ByteArray)⟩ : S56)] : List (S56))).bind fun y115 => (if 0 ≤ (wrap64 ((l0.length : Int) + (l1.length : Int))) then (if (wrap64 ((l0.length : Int) + (l1.length : Int))) ≤ (y115.length : Int) then ((xEncode.f (y115.take ((wrap64 ((l0.length : Int) + (l1.length : Int))) : Int).toNat)).bind fun bt122 => (if bt122.2 = 0 then (if t102.size + t104.size ≤ 9223372036854775807 then (if bt122.1.toList = (t102 ++ t104).toList then (if (wrap64 ((l0.length : Int) + (l1.length : Int))) < (y115.length : Int) then (freshetlaw02_RowJoins.j1 kj7 l0 l2 t102 (((rd_T56 y115 (wrap64 ((l0.length : Int) + (l1.length : Int)))).f0) != 77)) else (none)) else (freshetlaw02_RowJoins.j1 kj7 l0 l2 t102 true)) else (none)) else (freshetlaw02_RowJoins.j1 kj7 l0 l2 t102 true))) else (none)) else (none))) else (none))) else (none)) = some r := by first | (rw [hy109]; with_reducible exact H) | (have H2_ := (Option.bind_some _ _).symm.trans H; rw [hy109]; with_reducible exact H2_) | (have H2_ := (Option.bind_some _ _).symm.trans H; with_reducible exact H2_) | with_reducible exact H | (rw [hy109]; exact H) | exact H
                have Ny109 := Aside0.mk hy109
                clear hy109
                by_cases c20 : y109.length + l1.length < 3518437208883
                · rw [if_pos c20] at H
                  have LMc20 := Aside0.mk c20
                  clear c20
                  obtain ⟨y112, hy112⟩ : ∃ y_ : List (S56), y_ = (y109 ++ l1) := ⟨_, rfl⟩
                  replace H : (if y112.length < 3518437208883 then ((some (y112 ++ [(⟨77, 0, 0, (⟨#[]⟩ : ByteArray)⟩ : S56)] : List (S56))).bind fun y115 => (if 0 ≤ (wrap64 ((l0.length : Int) + (l1.length : Int))) then (if (wrap64 ((l0.length : Int) + (l1.length : Int))) ≤ (y115.length : Int) then ((xEncode.f (y115.take ((wrap64 ((l0.length : Int) + (l1.length : Int))) : Int).toNat)).bind fun bt122 => (if bt122.2 = 0 then (if t102.size + t104.size ≤ 9223372036854775807 then (if bt122.1.toList = (t102 ++ t104).toList then (if (wrap64 ((l0.length : Int) + (l1.length : Int))) < (y115.length : Int) then (freshetlaw02_RowJoins.j1 kj7 l0 l2 t102 (((rd_T56 y115 (wrap64 ((l0.length : Int) + (l1.length : Int)))).f0) != 77)) else (none)) else (freshetlaw02_RowJoins.j1 kj7 l0 l2 t102 true)) else (none)) else (freshetlaw02_RowJoins.j1 kj7 l0 l2 t102 true))) else (none)) else (none))) else (none)) = some r := by first | (rw [hy112]; with_reducible exact H) | (have H2_ := (Option.bind_some _ _).symm.trans H; rw [hy112]; with_reducible exact H2_) | (have H2_ := (Option.bind_some _ _).symm.trans H; with_reducible exact H2_) | with_reducible exact H | (rw [hy112]; exact H) | exact H
                  have Ny112 := Aside0.mk hy112
                  clear hy112
                  by_cases c21 : y112.length < 3518437208883
                  · rw [if_pos c21] at H
                    have LMc21 := Aside0.mk c21
                    clear c21
                    obtain ⟨y115, hy115⟩ : ∃ y_ : List (S56), y_ = (y112 ++ [(⟨77, 0, 0, (⟨#[]⟩ : ByteArray)⟩ : S56)]) := ⟨_, rfl⟩
                    replace H : (if 0 ≤ (wrap64 ((l0.length : Int) + (l1.length : Int))) then (if (wrap64 ((l0.length : Int) + (l1.length : Int))) ≤ (y115.length : Int) then ((xEncode.f (y115.take ((wrap64 ((l0.length : Int) + (l1.length : Int))) : Int).toNat)).bind fun bt122 => (if bt122.2 = 0 then (if t102.size + t104.size ≤ 9223372036854775807 then (if bt122.1.toList = (t102 ++ t104).toList then (if (wrap64 ((l0.length : Int) + (l1.length : Int))) < (y115.length : Int) then (freshetlaw02_RowJoins.j1 kj7 l0 l2 t102 (((rd_T56 y115 (wrap64 ((l0.length : Int) + (l1.length : Int)))).f0) != 77)) else (none)) else (freshetlaw02_RowJoins.j1 kj7 l0 l2 t102 true)) else (none)) else (freshetlaw02_RowJoins.j1 kj7 l0 l2 t102 true))) else (none)) else (none)) = some r := by first | (rw [hy115]; with_reducible exact H) | (have H2_ := (Option.bind_some _ _).symm.trans H; rw [hy115]; with_reducible exact H2_) | (have H2_ := (Option.bind_some _ _).symm.trans H; with_reducible exact H2_) | with_reducible exact H | (rw [hy115]; exact H) | exact H
                    have Ny115 := Aside0.mk hy115
                    clear hy115
                    obtain ⟨ji22, hji22⟩ : ∃ j_ : Int, (wrap64 ((l0.length : Int) + (l1.length : Int))) = j_ := ⟨_, rfl⟩
                    replace H : (if 0 ≤ (ji22) then (if (ji22) ≤ (y115.length : Int) then ((xEncode.f (y115.take ((ji22) : Int).toNat)).bind fun bt122 => (if bt122.2 = 0 then (if t102.size + t104.size ≤ 9223372036854775807 then (if bt122.1.toList = (t102 ++ t104).toList then (if (ji22) < (y115.length : Int) then (freshetlaw02_RowJoins.j1 kj7 l0 l2 t102 (((rd_T56 y115 (ji22)).f0) != 77)) else (none)) else (freshetlaw02_RowJoins.j1 kj7 l0 l2 t102 true)) else (none)) else (freshetlaw02_RowJoins.j1 kj7 l0 l2 t102 true))) else (none)) else (none)) = some r := by first | (rw [hji22] at H; exact H) | (simp only [hji22] at H ⊢; exact H)
                    have hji22w : (IntKind.i64.wrap ((l0.length : Int) + (l1.length : Int))) = ji22 := (i64_w _).trans hji22
                    have hjx : wrap64 (ji22 + 1) = ji16 := by rw [← hji22]; exact hji16
                    have hjxw : IntKind.i64.wrap (ji22 + 1) = ji16 := by rw [← hji22]; exact hji16w
                    by_cases c23 : 0 ≤ (ji22)
                    · rw [if_pos c23] at H
                      have c23b0 := eq_true c23
                      have c23b1 : decide (0 ≤ (ji22)) = true := decide_eq_true c23
                      clear c23
                      by_cases c24 : (ji22) ≤ (y115.length : Int)
                      · rw [if_pos c24] at H
                        have c24b0 := eq_true c24
                        have c24b1 : decide ((ji22) ≤ (y115.length : Int)) = true := decide_eq_true c24
                        clear c24
                        obtain ⟨y118, hy118⟩ : ∃ y_ : List (S56), y_ = (y115.take ((ji22) : Int).toNat) := ⟨_, rfl⟩
                        replace H : ((xEncode.f y118).bind fun bt122 => (if bt122.2 = 0 then (if t102.size + t104.size ≤ 9223372036854775807 then (if bt122.1.toList = (t102 ++ t104).toList then (if (ji22) < (y115.length : Int) then (freshetlaw02_RowJoins.j1 kj7 l0 l2 t102 (((rd_T56 y115 (ji22)).f0) != 77)) else (none)) else (freshetlaw02_RowJoins.j1 kj7 l0 l2 t102 true)) else (none)) else (freshetlaw02_RowJoins.j1 kj7 l0 l2 t102 true))) = some r := by first | (rw [hy118]; with_reducible exact H) | (have H2_ := (Option.bind_some _ _).symm.trans H; rw [hy118]; with_reducible exact H2_) | (have H2_ := (Option.bind_some _ _).symm.trans H; with_reducible exact H2_) | with_reducible exact H | (rw [hy118]; exact H) | exact H
                        have Ny118 := Aside0.mk hy118
                        clear hy118
                        replace H := Option.bind_eq_some_iff.mp H
                        obtain ⟨⟨t122, t123⟩, A250, H⟩ := H
                        replace H : (if t123 = 0 then (if t102.size + t104.size ≤ 9223372036854775807 then (if t122.toList = (t102 ++ t104).toList then (if (ji22) < (y115.length : Int) then (freshetlaw02_RowJoins.j1 kj7 l0 l2 t102 (((rd_T56 y115 (ji22)).f0) != 77)) else (none)) else (freshetlaw02_RowJoins.j1 kj7 l0 l2 t102 true)) else (none)) else (freshetlaw02_RowJoins.j1 kj7 l0 l2 t102 true)) = some r := H
                        have A25 := Aside0.mk A250
                        clear A250
                        have HC26 := Aside0.mk H
                        clear H
                        go_upto_region 12 with (first | ((with_reducible refine gate_dst (N := 53) rfl ?_); (try (refine gate_guard (by rfl) ?_; dsimp only)); refine Kd.R_make0 k56 _ 56 rfl (N := 53) rfl 33 _ _ rfl ji16 rfl rfl Tryd.underlying33 (.agg #[(.int .i64 0), (.int .i64 0), (.int .u64 0), (.string ⟨#[]⟩)]) 40 info56 rfl (by decide) (by omega) z56 (ok := fun _ => True) (okp := fun _ => True) (k56_mkM _ _ _ z56 ) (fun _ hk => hk) trivial (of_decide_eq_true (by first | (with_reducible assumption) | assumption)) (Nat.le_trans (Nat.mul_le_mul_right _ (of_decide_eq_true (by first | (with_reducible assumption) | assumption) : ji16.toNat ≤ 7036874417766)) (by omega)) (Below.refl _ _) (Nat.le_refl _) ?_; intro v107 w27 ho28 hb hg_ hnew_; clear hg_ hnew_; (first | rw [← Ny106.out] at ho28 | (simp only [Int.reduceToNat] at ho28; rw [← Ny106.out] at ho28)); have n0_ := Aside0.mk (Kd.R_lower ho28 (below_size (by repeat (first | (with_reducible first | exact HB.out | apply below_alloc | apply pw_below_drewN | apply below_drew1) | exact HB.out)))); have n1_ := Aside0.mk (below_step (by repeat (first | (with_reducible first | exact HB.out | apply below_alloc | apply pw_below_drewN | apply below_drew1) | exact HB.out)) hb); clear HB; have HO108 := n0_; have HB := n1_; clear n0_ n1_; clear hb ho28) | ((with_reducible refine gate_builtin (b := .append) (xs := #[.tmp 54, .tmp 55]) rfl ?_); (try (refine gate_guard (by rfl) ?_; dsimp only)); at_builtin; refine Kd.R_append_rows k56 (w0 := w) w.heap.size rfl (.tmp 54) (.tmp 55) 33 56 (.agg #[(.int .i64 0), (.int .i64 0), (.int .u64 0), (.string ⟨#[]⟩)]) 40 rfl Tryd.underlying33 info56 rfl (by decide) (by omega) v107 y106 l0 _ _ _ (fun _ => True) (fun _ => False) rfl rfl ?aO ?aR (fun _ _ h => h) (fun _ h => h.elim) ?aF ?aB ?aS ?aL ?_; (case aR => repeat (first | exact (Kd.C_below HR0.out HB.out) | (with_reducible refine Kd.C_alloc ?_ _) | (with_reducible refine Kd.C_drewN ?_ _) | (with_reducible refine Kd.C_drew ?_))); (case aB => exact (by repeat (first | (with_reducible first | exact HB.out | apply below_alloc | apply pw_below_drewN | apply below_drew1) | exact HB.out))); (case aF => exact (fun _ _ => trivial)); (case aO => exact (by (with_reducible repeat (first | apply Kd.R_alloc | apply Kd.R_drewN | apply Kd.R_drew)); exact HO108.out)); (case aS => exact (below_size (by repeat (first | (with_reducible first | exact HB.out | apply below_alloc | apply pw_below_drewN | apply below_drew1) | exact HB.out)))); (case aL => have := LMc19.out; omega); intro v110 w29 ho hb hg hat; rw [← Ny109.out] at ho; have n0_ := Aside0.mk (hb); have n1_ := Aside0.mk (ho); clear HB; clear HO108; have HB := n0_; have HO111 := n1_; clear n0_ n1_; clear ho hb hg hat) | ((with_reducible refine gate_builtin (b := .append) (xs := #[.tmp 57, .tmp 58]) rfl ?_); (try (refine gate_guard (by rfl) ?_; dsimp only)); at_builtin; refine Kd.R_append_rows k56 (w0 := w) w.heap.size rfl (.tmp 57) (.tmp 58) 33 56 (.agg #[(.int .i64 0), (.int .i64 0), (.int .u64 0), (.string ⟨#[]⟩)]) 40 rfl Tryd.underlying33 info56 rfl (by decide) (by omega) v110 y109 l1 _ _ _ (fun _ => True) (fun _ => False) rfl rfl ?aO ?aR (fun _ _ h => h) (fun _ h => h.elim) ?aF ?aB ?aS ?aL ?_; (case aR => repeat (first | exact (Kd.C_below HR1.out HB.out) | (with_reducible refine Kd.C_alloc ?_ _) | (with_reducible refine Kd.C_drewN ?_ _) | (with_reducible refine Kd.C_drew ?_))); (case aB => exact (by repeat (first | (with_reducible first | exact HB.out | apply below_alloc | apply pw_below_drewN | apply below_drew1) | exact HB.out))); (case aF => exact (fun _ _ => trivial)); (case aO => exact (by (with_reducible repeat (first | apply Kd.R_alloc | apply Kd.R_drewN | apply Kd.R_drew)); exact HO111.out)); (case aS => exact (below_size (by repeat (first | (with_reducible first | exact HB.out | apply below_alloc | apply pw_below_drewN | apply below_drew1) | exact HB.out)))); (case aL => have := LMc20.out; omega); intro v113 w30 ho hb hg hat; rw [← Ny112.out] at ho; have n0_ := Aside0.mk (hb); have n1_ := Aside0.mk (ho); clear HB; clear HO111; have HB := n0_; have HO114 := n1_; clear n0_ n1_; clear ho hb hg hat) | ((with_reducible refine gate_builtin (b := .append) (xs := #[.tmp 60, .tmp 62]) rfl ?_); (try (refine gate_guard (by rfl) ?_; dsimp only)); at_builtin; refine Kd.R_append k56 (w0 := w) w.heap.size rfl (.tmp 60) (.tmp 62) 33 56 (.agg #[(.int .i64 0), (.int .i64 0), (.int .u64 0), (.string ⟨#[]⟩)]) 40 rfl Tryd.underlying33 info56 rfl (by decide) (by omega) v113 y112 (⟨77, 0, 0, (⟨#[]⟩ : ByteArray)⟩ : S56) [.int .i64 77, .int .i64 0, .int .u64 0, .string (⟨#[]⟩ : ByteArray)] (fun _ => True) (fun _ => False) rfl rfl ?aP (fun _ hk => hk.elim) ?aF ?aO ?aB ?aS ?aL ?_; (case aP => exact k56_mkM _ _ _ (⟨77, 0, 0, (⟨#[]⟩ : ByteArray)⟩ : S56)); (case aB => exact (by repeat (first | (with_reducible first | exact HB.out | apply below_alloc | apply pw_below_drewN | apply below_drew1) | exact HB.out))); (case aF => exact (fun _ _ => trivial)); (case aO => exact (by (with_reducible repeat (first | apply Kd.R_alloc | apply Kd.R_drewN | apply Kd.R_drew)); exact HO114.out)); (case aS => exact (below_size (by repeat (first | (with_reducible first | exact HB.out | apply below_alloc | apply pw_below_drewN | apply below_drew1) | exact HB.out)))); (case aL => have := LMc21.out; omega); intro v116 w31 ho hb hg hat; rw [← Ny115.out] at ho; have n0_ := Aside0.mk (hb); have n1_ := Aside0.mk (ho); clear HB; clear HO114; have HB := n0_; have HO117 := n1_; clear n0_ n1_; clear ho hb hg hat; obtain ⟨Ao33, co33, eo33⟩ := Kd.R_slice HO117.out; subst eo33; have q32 : ((ji22) : Int) ≤ ((y115.length : Int) : Int) := of_decide_eq_true (by first | (with_reducible assumption) | assumption); obtain ⟨i032, hi032, _, hsz32, _⟩ := info_parts info56; have hroom32 : y115.length ≤ co33 := (Kd.R_reads' HO117.out).2.1; have hC32 : Kd.C k56 _ Ao33 y115.length y115 := (Kd.R_reads' HO117.out).2.2; have hcut32 := cut_to (P := Tryd.prog) 33 56 .i64 Tryd.underlying33 hi032 Ao33 y115.length co33 (ji22) (of_decide_eq_true (by first | (with_reducible assumption) | assumption)) q32 hroom32; have hr32 := Kd.C_take (m := ((ji22) : Int).toNat) hC32 (by omega); have hy32 : y118.length = ((ji22) : Int).toNat := (by rw [Ny118.out, List.length_take]; omega); rw [← Ny118.out] at hr32; rw [← hy32] at hcut32; have HR121 := Aside0.mk hr32; have HC121 := Aside0.mk (show y118.length ≤ co33 from by omega); clear hr32 hC32 hroom32 hi032 hsz32; have KY32 := Aside0.mk hy32; clear hy32; have KL32 := Aside0.mk (show ((ji22) : Int).toNat ≤ y115.length from by omega); replace q32 := eq_true q32) | (go_at_call 27; (with_reducible refine (xEncode.calls _ _ y118 t122 t123 _ ?side1 ?side2 ?side3 A25.out).mono ?_); (case side1 => repeat (first | exact (by repeat (first | (with_reducible exact HR121.out) | (with_reducible refine Kd.C_alloc ?_ _) | (with_reducible refine Kd.C_drewN ?_ _) | (with_reducible refine Kd.C_drew ?_) | exact HR121.out)) | (with_reducible refine Kd.C_alloc ?_ _) | (with_reducible refine Kd.C_drewN ?_ _) | (with_reducible refine Kd.C_drew ?_))); (case side2 => exact HC121.out); (case side3 => first | exact HT.out | exact tab_at HT.out (by repeat (first | (with_reducible first | exact HB.out | apply below_alloc | apply pw_below_drewN | apply below_drew1) | exact HB.out)) | (repeat (first | exact HT.out | refine tab_drewN ?_ | refine tab_drew ?_))); rintro e w34 ⟨rfl, hb⟩; have n0_ := Aside0.mk (Kd.R_below (by (with_reducible repeat (first | apply Kd.R_alloc | apply Kd.R_drewN | apply Kd.R_drew)); exact HO117.out) hb); have n1_ := Aside0.mk (Kd.C_below (by repeat (first | (with_reducible exact HR121.out) | (with_reducible refine Kd.C_alloc ?_ _) | (with_reducible refine Kd.C_drewN ?_ _) | (with_reducible refine Kd.C_drew ?_) | exact HR121.out)) hb); have n2_ := Aside0.mk (below_step (by repeat (first | (with_reducible first | exact HB.out | apply below_alloc | apply pw_below_drewN | apply below_drew1) | exact HB.out)) hb); clear HO117; clear HR121; clear HB; have HO117 := n0_; have HR121 := n1_; have HB := n2_; clear n0_ n1_ n2_; (try clear hb); (try clear hb2); (try clear hk); (try clear hi)))
                        repeat (go_quiet (first | ((with_reducible refine gate_dst (N := 53) rfl ?_); (try (refine gate_guard (by rfl) ?_; dsimp only)); refine Kd.R_make0 k56 _ 56 rfl (N := 53) rfl 33 _ _ rfl ji16 rfl rfl Tryd.underlying33 (.agg #[(.int .i64 0), (.int .i64 0), (.int .u64 0), (.string ⟨#[]⟩)]) 40 info56 rfl (by decide) (by omega) z56 (ok := fun _ => True) (okp := fun _ => True) (k56_mkM _ _ _ z56 ) (fun _ hk => hk) trivial (of_decide_eq_true (by first | (with_reducible assumption) | assumption)) (Nat.le_trans (Nat.mul_le_mul_right _ (of_decide_eq_true (by first | (with_reducible assumption) | assumption) : ji16.toNat ≤ 7036874417766)) (by omega)) (Below.refl _ _) (Nat.le_refl _) ?_; intro v107 w27 ho28 hb hg_ hnew_; clear hg_ hnew_; (first | rw [← Ny106.out] at ho28 | (simp only [Int.reduceToNat] at ho28; rw [← Ny106.out] at ho28)); have n0_ := Aside0.mk (Kd.R_lower ho28 (below_size (by repeat (first | (with_reducible first | exact HB.out | apply below_alloc | apply pw_below_drewN | apply below_drew1) | exact HB.out)))); have n1_ := Aside0.mk (below_step (by repeat (first | (with_reducible first | exact HB.out | apply below_alloc | apply pw_below_drewN | apply below_drew1) | exact HB.out)) hb); clear HB; have HO108 := n0_; have HB := n1_; clear n0_ n1_; clear hb ho28) | ((with_reducible refine gate_builtin (b := .append) (xs := #[.tmp 54, .tmp 55]) rfl ?_); (try (refine gate_guard (by rfl) ?_; dsimp only)); at_builtin; refine Kd.R_append_rows k56 (w0 := w) w.heap.size rfl (.tmp 54) (.tmp 55) 33 56 (.agg #[(.int .i64 0), (.int .i64 0), (.int .u64 0), (.string ⟨#[]⟩)]) 40 rfl Tryd.underlying33 info56 rfl (by decide) (by omega) v107 y106 l0 _ _ _ (fun _ => True) (fun _ => False) rfl rfl ?aO ?aR (fun _ _ h => h) (fun _ h => h.elim) ?aF ?aB ?aS ?aL ?_; (case aR => repeat (first | exact (Kd.C_below HR0.out HB.out) | (with_reducible refine Kd.C_alloc ?_ _) | (with_reducible refine Kd.C_drewN ?_ _) | (with_reducible refine Kd.C_drew ?_))); (case aB => exact (by repeat (first | (with_reducible first | exact HB.out | apply below_alloc | apply pw_below_drewN | apply below_drew1) | exact HB.out))); (case aF => exact (fun _ _ => trivial)); (case aO => exact (by (with_reducible repeat (first | apply Kd.R_alloc | apply Kd.R_drewN | apply Kd.R_drew)); exact HO108.out)); (case aS => exact (below_size (by repeat (first | (with_reducible first | exact HB.out | apply below_alloc | apply pw_below_drewN | apply below_drew1) | exact HB.out)))); (case aL => have := LMc19.out; omega); intro v110 w29 ho hb hg hat; rw [← Ny109.out] at ho; have n0_ := Aside0.mk (hb); have n1_ := Aside0.mk (ho); clear HB; clear HO108; have HB := n0_; have HO111 := n1_; clear n0_ n1_; clear ho hb hg hat) | ((with_reducible refine gate_builtin (b := .append) (xs := #[.tmp 57, .tmp 58]) rfl ?_); (try (refine gate_guard (by rfl) ?_; dsimp only)); at_builtin; refine Kd.R_append_rows k56 (w0 := w) w.heap.size rfl (.tmp 57) (.tmp 58) 33 56 (.agg #[(.int .i64 0), (.int .i64 0), (.int .u64 0), (.string ⟨#[]⟩)]) 40 rfl Tryd.underlying33 info56 rfl (by decide) (by omega) v110 y109 l1 _ _ _ (fun _ => True) (fun _ => False) rfl rfl ?aO ?aR (fun _ _ h => h) (fun _ h => h.elim) ?aF ?aB ?aS ?aL ?_; (case aR => repeat (first | exact (Kd.C_below HR1.out HB.out) | (with_reducible refine Kd.C_alloc ?_ _) | (with_reducible refine Kd.C_drewN ?_ _) | (with_reducible refine Kd.C_drew ?_))); (case aB => exact (by repeat (first | (with_reducible first | exact HB.out | apply below_alloc | apply pw_below_drewN | apply below_drew1) | exact HB.out))); (case aF => exact (fun _ _ => trivial)); (case aO => exact (by (with_reducible repeat (first | apply Kd.R_alloc | apply Kd.R_drewN | apply Kd.R_drew)); exact HO111.out)); (case aS => exact (below_size (by repeat (first | (with_reducible first | exact HB.out | apply below_alloc | apply pw_below_drewN | apply below_drew1) | exact HB.out)))); (case aL => have := LMc20.out; omega); intro v113 w30 ho hb hg hat; rw [← Ny112.out] at ho; have n0_ := Aside0.mk (hb); have n1_ := Aside0.mk (ho); clear HB; clear HO111; have HB := n0_; have HO114 := n1_; clear n0_ n1_; clear ho hb hg hat) | ((with_reducible refine gate_builtin (b := .append) (xs := #[.tmp 60, .tmp 62]) rfl ?_); (try (refine gate_guard (by rfl) ?_; dsimp only)); at_builtin; refine Kd.R_append k56 (w0 := w) w.heap.size rfl (.tmp 60) (.tmp 62) 33 56 (.agg #[(.int .i64 0), (.int .i64 0), (.int .u64 0), (.string ⟨#[]⟩)]) 40 rfl Tryd.underlying33 info56 rfl (by decide) (by omega) v113 y112 (⟨77, 0, 0, (⟨#[]⟩ : ByteArray)⟩ : S56) [.int .i64 77, .int .i64 0, .int .u64 0, .string (⟨#[]⟩ : ByteArray)] (fun _ => True) (fun _ => False) rfl rfl ?aP (fun _ hk => hk.elim) ?aF ?aO ?aB ?aS ?aL ?_; (case aP => exact k56_mkM _ _ _ (⟨77, 0, 0, (⟨#[]⟩ : ByteArray)⟩ : S56)); (case aB => exact (by repeat (first | (with_reducible first | exact HB.out | apply below_alloc | apply pw_below_drewN | apply below_drew1) | exact HB.out))); (case aF => exact (fun _ _ => trivial)); (case aO => exact (by (with_reducible repeat (first | apply Kd.R_alloc | apply Kd.R_drewN | apply Kd.R_drew)); exact HO114.out)); (case aS => exact (below_size (by repeat (first | (with_reducible first | exact HB.out | apply below_alloc | apply pw_below_drewN | apply below_drew1) | exact HB.out)))); (case aL => have := LMc21.out; omega); intro v116 w31 ho hb hg hat; rw [← Ny115.out] at ho; have n0_ := Aside0.mk (hb); have n1_ := Aside0.mk (ho); clear HB; clear HO114; have HB := n0_; have HO117 := n1_; clear n0_ n1_; clear ho hb hg hat; obtain ⟨Ao33, co33, eo33⟩ := Kd.R_slice HO117.out; subst eo33; have q32 : ((ji22) : Int) ≤ ((y115.length : Int) : Int) := of_decide_eq_true (by first | (with_reducible assumption) | assumption); obtain ⟨i032, hi032, _, hsz32, _⟩ := info_parts info56; have hroom32 : y115.length ≤ co33 := (Kd.R_reads' HO117.out).2.1; have hC32 : Kd.C k56 _ Ao33 y115.length y115 := (Kd.R_reads' HO117.out).2.2; have hcut32 := cut_to (P := Tryd.prog) 33 56 .i64 Tryd.underlying33 hi032 Ao33 y115.length co33 (ji22) (of_decide_eq_true (by first | (with_reducible assumption) | assumption)) q32 hroom32; have hr32 := Kd.C_take (m := ((ji22) : Int).toNat) hC32 (by omega); have hy32 : y118.length = ((ji22) : Int).toNat := (by rw [Ny118.out, List.length_take]; omega); rw [← Ny118.out] at hr32; rw [← hy32] at hcut32; have HR121 := Aside0.mk hr32; have HC121 := Aside0.mk (show y118.length ≤ co33 from by omega); clear hr32 hC32 hroom32 hi032 hsz32; have KY32 := Aside0.mk hy32; clear hy32; have KL32 := Aside0.mk (show ((ji22) : Int).toNat ≤ y115.length from by omega); replace q32 := eq_true q32) | (go_at_call 27; (with_reducible refine (xEncode.calls _ _ y118 t122 t123 _ ?side1 ?side2 ?side3 A25.out).mono ?_); (case side1 => repeat (first | exact (by repeat (first | (with_reducible exact HR121.out) | (with_reducible refine Kd.C_alloc ?_ _) | (with_reducible refine Kd.C_drewN ?_ _) | (with_reducible refine Kd.C_drew ?_) | exact HR121.out)) | (with_reducible refine Kd.C_alloc ?_ _) | (with_reducible refine Kd.C_drewN ?_ _) | (with_reducible refine Kd.C_drew ?_))); (case side2 => exact HC121.out); (case side3 => first | exact HT.out | exact tab_at HT.out (by repeat (first | (with_reducible first | exact HB.out | apply below_alloc | apply pw_below_drewN | apply below_drew1) | exact HB.out)) | (repeat (first | exact HT.out | refine tab_drewN ?_ | refine tab_drew ?_))); rintro e w34 ⟨rfl, hb⟩; have n0_ := Aside0.mk (Kd.R_below (by (with_reducible repeat (first | apply Kd.R_alloc | apply Kd.R_drewN | apply Kd.R_drew)); exact HO117.out) hb); have n1_ := Aside0.mk (Kd.C_below (by repeat (first | (with_reducible exact HR121.out) | (with_reducible refine Kd.C_alloc ?_ _) | (with_reducible refine Kd.C_drewN ?_ _) | (with_reducible refine Kd.C_drew ?_) | exact HR121.out)) hb); have n2_ := Aside0.mk (below_step (by repeat (first | (with_reducible first | exact HB.out | apply below_alloc | apply pw_below_drewN | apply below_drew1) | exact HB.out)) hb); clear HO117; clear HR121; clear HB; have HO117 := n0_; have HR121 := n1_; have HB := n2_; clear n0_ n1_ n2_; (try clear hb); (try clear hb2); (try clear hk); (try clear hi))); go_upto_region 12 with (first | ((with_reducible refine gate_dst (N := 53) rfl ?_); (try (refine gate_guard (by rfl) ?_; dsimp only)); refine Kd.R_make0 k56 _ 56 rfl (N := 53) rfl 33 _ _ rfl ji16 rfl rfl Tryd.underlying33 (.agg #[(.int .i64 0), (.int .i64 0), (.int .u64 0), (.string ⟨#[]⟩)]) 40 info56 rfl (by decide) (by omega) z56 (ok := fun _ => True) (okp := fun _ => True) (k56_mkM _ _ _ z56 ) (fun _ hk => hk) trivial (of_decide_eq_true (by first | (with_reducible assumption) | assumption)) (Nat.le_trans (Nat.mul_le_mul_right _ (of_decide_eq_true (by first | (with_reducible assumption) | assumption) : ji16.toNat ≤ 7036874417766)) (by omega)) (Below.refl _ _) (Nat.le_refl _) ?_; intro v107 w27 ho28 hb hg_ hnew_; clear hg_ hnew_; (first | rw [← Ny106.out] at ho28 | (simp only [Int.reduceToNat] at ho28; rw [← Ny106.out] at ho28)); have n0_ := Aside0.mk (Kd.R_lower ho28 (below_size (by repeat (first | (with_reducible first | exact HB.out | apply below_alloc | apply pw_below_drewN | apply below_drew1) | exact HB.out)))); have n1_ := Aside0.mk (below_step (by repeat (first | (with_reducible first | exact HB.out | apply below_alloc | apply pw_below_drewN | apply below_drew1) | exact HB.out)) hb); clear HB; have HO108 := n0_; have HB := n1_; clear n0_ n1_; clear hb ho28) | ((with_reducible refine gate_builtin (b := .append) (xs := #[.tmp 54, .tmp 55]) rfl ?_); (try (refine gate_guard (by rfl) ?_; dsimp only)); at_builtin; refine Kd.R_append_rows k56 (w0 := w) w.heap.size rfl (.tmp 54) (.tmp 55) 33 56 (.agg #[(.int .i64 0), (.int .i64 0), (.int .u64 0), (.string ⟨#[]⟩)]) 40 rfl Tryd.underlying33 info56 rfl (by decide) (by omega) v107 y106 l0 _ _ _ (fun _ => True) (fun _ => False) rfl rfl ?aO ?aR (fun _ _ h => h) (fun _ h => h.elim) ?aF ?aB ?aS ?aL ?_; (case aR => repeat (first | exact (Kd.C_below HR0.out HB.out) | (with_reducible refine Kd.C_alloc ?_ _) | (with_reducible refine Kd.C_drewN ?_ _) | (with_reducible refine Kd.C_drew ?_))); (case aB => exact (by repeat (first | (with_reducible first | exact HB.out | apply below_alloc | apply pw_below_drewN | apply below_drew1) | exact HB.out))); (case aF => exact (fun _ _ => trivial)); (case aO => exact (by (with_reducible repeat (first | apply Kd.R_alloc | apply Kd.R_drewN | apply Kd.R_drew)); exact HO108.out)); (case aS => exact (below_size (by repeat (first | (with_reducible first | exact HB.out | apply below_alloc | apply pw_below_drewN | apply below_drew1) | exact HB.out)))); (case aL => have := LMc19.out; omega); intro v110 w29 ho hb hg hat; rw [← Ny109.out] at ho; have n0_ := Aside0.mk (hb); have n1_ := Aside0.mk (ho); clear HB; clear HO108; have HB := n0_; have HO111 := n1_; clear n0_ n1_; clear ho hb hg hat) | ((with_reducible refine gate_builtin (b := .append) (xs := #[.tmp 57, .tmp 58]) rfl ?_); (try (refine gate_guard (by rfl) ?_; dsimp only)); at_builtin; refine Kd.R_append_rows k56 (w0 := w) w.heap.size rfl (.tmp 57) (.tmp 58) 33 56 (.agg #[(.int .i64 0), (.int .i64 0), (.int .u64 0), (.string ⟨#[]⟩)]) 40 rfl Tryd.underlying33 info56 rfl (by decide) (by omega) v110 y109 l1 _ _ _ (fun _ => True) (fun _ => False) rfl rfl ?aO ?aR (fun _ _ h => h) (fun _ h => h.elim) ?aF ?aB ?aS ?aL ?_; (case aR => repeat (first | exact (Kd.C_below HR1.out HB.out) | (with_reducible refine Kd.C_alloc ?_ _) | (with_reducible refine Kd.C_drewN ?_ _) | (with_reducible refine Kd.C_drew ?_))); (case aB => exact (by repeat (first | (with_reducible first | exact HB.out | apply below_alloc | apply pw_below_drewN | apply below_drew1) | exact HB.out))); (case aF => exact (fun _ _ => trivial)); (case aO => exact (by (with_reducible repeat (first | apply Kd.R_alloc | apply Kd.R_drewN | apply Kd.R_drew)); exact HO111.out)); (case aS => exact (below_size (by repeat (first | (with_reducible first | exact HB.out | apply below_alloc | apply pw_below_drewN | apply below_drew1) | exact HB.out)))); (case aL => have := LMc20.out; omega); intro v113 w30 ho hb hg hat; rw [← Ny112.out] at ho; have n0_ := Aside0.mk (hb); have n1_ := Aside0.mk (ho); clear HB; clear HO111; have HB := n0_; have HO114 := n1_; clear n0_ n1_; clear ho hb hg hat) | ((with_reducible refine gate_builtin (b := .append) (xs := #[.tmp 60, .tmp 62]) rfl ?_); (try (refine gate_guard (by rfl) ?_; dsimp only)); at_builtin; refine Kd.R_append k56 (w0 := w) w.heap.size rfl (.tmp 60) (.tmp 62) 33 56 (.agg #[(.int .i64 0), (.int .i64 0), (.int .u64 0), (.string ⟨#[]⟩)]) 40 rfl Tryd.underlying33 info56 rfl (by decide) (by omega) v113 y112 (⟨77, 0, 0, (⟨#[]⟩ : ByteArray)⟩ : S56) [.int .i64 77, .int .i64 0, .int .u64 0, .string (⟨#[]⟩ : ByteArray)] (fun _ => True) (fun _ => False) rfl rfl ?aP (fun _ hk => hk.elim) ?aF ?aO ?aB ?aS ?aL ?_; (case aP => exact k56_mkM _ _ _ (⟨77, 0, 0, (⟨#[]⟩ : ByteArray)⟩ : S56)); (case aB => exact (by repeat (first | (with_reducible first | exact HB.out | apply below_alloc | apply pw_below_drewN | apply below_drew1) | exact HB.out))); (case aF => exact (fun _ _ => trivial)); (case aO => exact (by (with_reducible repeat (first | apply Kd.R_alloc | apply Kd.R_drewN | apply Kd.R_drew)); exact HO114.out)); (case aS => exact (below_size (by repeat (first | (with_reducible first | exact HB.out | apply below_alloc | apply pw_below_drewN | apply below_drew1) | exact HB.out)))); (case aL => have := LMc21.out; omega); intro v116 w31 ho hb hg hat; rw [← Ny115.out] at ho; have n0_ := Aside0.mk (hb); have n1_ := Aside0.mk (ho); clear HB; clear HO114; have HB := n0_; have HO117 := n1_; clear n0_ n1_; clear ho hb hg hat; obtain ⟨Ao33, co33, eo33⟩ := Kd.R_slice HO117.out; subst eo33; have q32 : ((ji22) : Int) ≤ ((y115.length : Int) : Int) := of_decide_eq_true (by first | (with_reducible assumption) | assumption); obtain ⟨i032, hi032, _, hsz32, _⟩ := info_parts info56; have hroom32 : y115.length ≤ co33 := (Kd.R_reads' HO117.out).2.1; have hC32 : Kd.C k56 _ Ao33 y115.length y115 := (Kd.R_reads' HO117.out).2.2; have hcut32 := cut_to (P := Tryd.prog) 33 56 .i64 Tryd.underlying33 hi032 Ao33 y115.length co33 (ji22) (of_decide_eq_true (by first | (with_reducible assumption) | assumption)) q32 hroom32; have hr32 := Kd.C_take (m := ((ji22) : Int).toNat) hC32 (by omega); have hy32 : y118.length = ((ji22) : Int).toNat := (by rw [Ny118.out, List.length_take]; omega); rw [← Ny118.out] at hr32; rw [← hy32] at hcut32; have HR121 := Aside0.mk hr32; have HC121 := Aside0.mk (show y118.length ≤ co33 from by omega); clear hr32 hC32 hroom32 hi032 hsz32; have KY32 := Aside0.mk hy32; clear hy32; have KL32 := Aside0.mk (show ((ji22) : Int).toNat ≤ y115.length from by omega); replace q32 := eq_true q32) | (go_at_call 27; (with_reducible refine (xEncode.calls _ _ y118 t122 t123 _ ?side1 ?side2 ?side3 A25.out).mono ?_); (case side1 => repeat (first | exact (by repeat (first | (with_reducible exact HR121.out) | (with_reducible refine Kd.C_alloc ?_ _) | (with_reducible refine Kd.C_drewN ?_ _) | (with_reducible refine Kd.C_drew ?_) | exact HR121.out)) | (with_reducible refine Kd.C_alloc ?_ _) | (with_reducible refine Kd.C_drewN ?_ _) | (with_reducible refine Kd.C_drew ?_))); (case side2 => exact HC121.out); (case side3 => first | exact HT.out | exact tab_at HT.out (by repeat (first | (with_reducible first | exact HB.out | apply below_alloc | apply pw_below_drewN | apply below_drew1) | exact HB.out)) | (repeat (first | exact HT.out | refine tab_drewN ?_ | refine tab_drew ?_))); rintro e w34 ⟨rfl, hb⟩; have n0_ := Aside0.mk (Kd.R_below (by (with_reducible repeat (first | apply Kd.R_alloc | apply Kd.R_drewN | apply Kd.R_drew)); exact HO117.out) hb); have n1_ := Aside0.mk (Kd.C_below (by repeat (first | (with_reducible exact HR121.out) | (with_reducible refine Kd.C_alloc ?_ _) | (with_reducible refine Kd.C_drewN ?_ _) | (with_reducible refine Kd.C_drew ?_) | exact HR121.out)) hb); have n2_ := Aside0.mk (below_step (by repeat (first | (with_reducible first | exact HB.out | apply below_alloc | apply pw_below_drewN | apply below_drew1) | exact HB.out)) hb); clear HO117; clear HR121; clear HB; have HO117 := n0_; have HR121 := n1_; have HB := n2_; clear n0_ n1_ n2_; (try clear hb); (try clear hb2); (try clear hk); (try clear hi))))
                        (try simp only [Act.put, List.setIfInBounds_toArray, List.set_cons_zero, List.set_cons_succ])
                        go_cut [95] (fun v95 wc => ∃ (kq : Nat) (x95_25 : Bool), v95 = .bool x95_25 ∧ Aside0 (freshetlaw02_RowJoins.j1 kq l0 l2 t102 x95_25 = some r) ∧ Aside0 (kq ≤ kj7) ∧ Aside0 (Kd.C k56 wc Ao33 y118.length y118) ∧ Aside0 (Below w.heap.size w wc))
                        case first =>
                          have H := HC26.out
                          clear HC26
                          by_cases c35 : t123 = 0
                          · rw [if_pos c35] at H
                            have c35b0 : (t123 == 0) = true := beq_iff_eq.mpr c35
                            have c35b1 : (t123 != 0) = false := bne_eq_false_iff_eq.mpr c35
                            clear c35
                            (first | rw [c35b0] | (simp only [i64_w, i32_w]; rw [c35b0]) | skip)
                            by_cases c36 : t102.size + t104.size ≤ 9223372036854775807
                            · rw [if_pos c36] at H
                              have c36b0 := eq_true c36
                              have c36b1 : decide (t102.size + t104.size ≤ 9223372036854775807) = true := decide_eq_true c36
                              try have c36b2 : (9223372036854775807 < t102.size + t104.size) = False := eq_false (Nat.not_lt.2 c36)
                              by_cases c37 : t122.toList = (t102 ++ t104).toList
                              · rw [if_pos c37] at H
                                have c37b0 : (t122.toList == (t102 ++ t104).toList) = true := beq_iff_eq.mpr c37
                                have c37b1 : (t122.toList != (t102 ++ t104).toList) = false := bne_eq_false_iff_eq.mpr c37
                                clear c37
                                by_cases c38 : (ji22) < (y115.length : Int)
                                · rw [if_pos c38] at H
                                  have c38b0 : decide ((ji22) < (y115.length : Int)) = true := decide_eq_true c38
                                  clear c38
                                  have H' := Aside0.mk H
                                  clear H
                                  have p124 : 0 ≤ ((ji22) : Int) := of_decide_eq_true (by first | (with_reducible assumption) | assumption)
                                  have q124 : (ji22) < (y115.length : Int) := of_decide_eq_true (by first | (with_reducible assumption) | assumption)
                                  obtain ⟨ad124, e124, hx124_0, hx124_1, hx124_2, hx124_3⟩ := at_T56 (Kd.R_reads' HO117.out).2.2 (ji22) p124 q124
                                  cases e124
                                  replace p124 := eq_true p124
                                  replace q124 := eq_true q124
                                  go_wp2
                                  repeat (go_quiet (fail); try go_wp2)
                                  go_meet
                                  case rel => exact ⟨_, ((((rd_T56 y115 (ji22)).f0) != 77)), (by first | rfl | (simp; done) | (simp only [← hji22] <;> (first | rfl | simp)) | (simp [*]; done)), H', ⟨by have := HJ7.out; first | omega | exact Nat.le_refl _⟩, ⟨by repeat (first | (with_reducible exact HR121.out) | (with_reducible refine Kd.C_alloc ?_ _) | (with_reducible refine Kd.C_drewN ?_ _) | (with_reducible refine Kd.C_drew ?_) | exact HR121.out)⟩, ⟨by repeat (first | (with_reducible first | exact HB.out | apply below_alloc | apply pw_below_drewN | apply below_drew1) | exact HB.out)⟩⟩
                                · rw [if_neg c38] at H
                                  exact absurd H (by simp)
                              · rw [if_neg c37] at H
                                have c37b0 : (t122.toList == (t102 ++ t104).toList) = false := beq_eq_false_iff_ne.mpr c37
                                have c37b1 : (t122.toList != (t102 ++ t104).toList) = true := bne_iff_ne.mpr c37
                                have H' := Aside0.mk H
                                clear H
                                go_wp2
                                repeat (go_quiet (fail); try go_wp2)
                                go_meet
                                case rel => exact ⟨_, (true), (by first | rfl | (simp; done) | (simp [*]; done)), H', ⟨by have := HJ7.out; first | omega | exact Nat.le_refl _⟩, ⟨by repeat (first | (with_reducible exact HR121.out) | (with_reducible refine Kd.C_alloc ?_ _) | (with_reducible refine Kd.C_drewN ?_ _) | (with_reducible refine Kd.C_drew ?_) | exact HR121.out)⟩, ⟨by repeat (first | (with_reducible first | exact HB.out | apply below_alloc | apply pw_below_drewN | apply below_drew1) | exact HB.out)⟩⟩
                            · rw [if_neg c36] at H
                              exact absurd H (by simp)
                          · rw [if_neg c35] at H
                            have c35b0 : (t123 == 0) = false := beq_eq_false_iff_ne.mpr c35
                            have c35b1 : (t123 != 0) = true := bne_iff_ne.mpr c35
                            (first | rw [c35b0] | (simp only [i64_w, i32_w]; rw [c35b0]) | skip)
                            have H' := Aside0.mk H
                            clear H
                            go_wp2
                            repeat (go_quiet (fail); try go_wp2)
                            go_meet
                            case rel => exact ⟨_, (true), (by first | rfl | (simp; done) | (simp [*]; done)), H', ⟨by have := HJ7.out; first | omega | exact Nat.le_refl _⟩, ⟨by repeat (first | (with_reducible exact HR121.out) | (with_reducible refine Kd.C_alloc ?_ _) | (with_reducible refine Kd.C_drewN ?_ _) | (with_reducible refine Kd.C_drew ?_) | exact HR121.out)⟩, ⟨by repeat (first | (with_reducible first | exact HB.out | apply below_alloc | apply pw_below_drewN | apply below_drew1) | exact HB.out)⟩⟩
                        case rest =>
                          clear HC26
                          try clear c1
                          try clear p1
                          try clear q1
                          try clear hx1
                          try clear c2
                          try clear p2
                          try clear c3
                          try clear q3
                          try clear c5
                          try clear p6
                          try clear c9
                          try clear c12
                          try clear c12b0
                          try clear c12b1
                          try clear p12
                          try clear q12
                          try clear hx12
                          try clear c13
                          try clear c13b0
                          try clear c13b1
                          try clear c14
                          try clear c14b0
                          try clear c14b1
                          try clear c15
                          try clear c17
                          try clear c17b0
                          try clear c17b1
                          try clear c18
                          try clear c18b0
                          try clear c18b1
                          try clear c19
                          try clear c20
                          try clear c21
                          try clear c23
                          try clear c23b0
                          try clear c23b1
                          try clear c24
                          try clear c24b0
                          try clear c24b1
                          try clear q32
                          try clear c35
                          try clear c35b0
                          try clear c35b1
                          try clear c36
                          try clear c36b0
                          try clear c36b1
                          try clear c36b2
                          try clear c37
                          try clear c37b0
                          try clear c37b1
                          try clear c38
                          try clear c38b0
                          try clear hx124_0
                          try clear hx124_1
                          try clear hx124_2
                          try clear hx124_3
                          try clear p124
                          try clear p2
                          try clear q124
                          try clear q32
                          obtain ⟨kq, x95_25, rfl, HA, HJ25, HR121, HB⟩ := hcut
                          cases kq with
                          | zero => exact absurd HA.out (by simp [freshetlaw02_RowJoins.j1])
                          | succ kj25 =>
                            have H := HA.out
                            clear HA
                            simp only [freshetlaw02_RowJoins.j1] at H
                            by_cases c39 : x95_25 = true
                            · subst c39
                              have H1 : (some false) = some r := by rw [if_pos rfl] at H; exact H
                              clear H
                              have H := H1
                              clear H1
                              obtain rfl := Option.some.inj H
                              go_wp2
                              repeat (go_quiet (fail); try go_wp2)
                              go_ret
                              exact ⟨by first | rfl | (simp [errW_none, errW_some] <;> rfl) | (simp only [← hji16, ← hji22]; first | rfl | (simp [errW_none, errW_some] <;> rfl)) | (simp [*, errW_none, errW_some] <;> rfl), by repeat (first | (with_reducible first | exact HB.out | apply below_alloc | apply pw_below_drewN | apply below_drew1) | exact HB.out)⟩
                            · replace c39 := Bool.eq_false_iff.mpr c39
                              subst c39
                              have H1 : ((row_Pick.f kj25 l0 l2).bind fun bt125 => (if bt125.2 = 0 then (freshetlaw02_RowJoins.l0 kj25 l0 l2 t102 bt125.1 0) else (some ((bt125.1.length : Int) == 0)))) = some r := by rw [if_neg (show ¬ (false = true) by decide)] at H; exact H
                              clear H
                              have H := H1
                              clear H1
                              replace H := Option.bind_eq_some_iff.mp H
                              obtain ⟨⟨t125, t126⟩, A400, H⟩ := H
                              replace H : (if t126 = 0 then (freshetlaw02_RowJoins.l0 kj25 l0 l2 t102 t125 0) else (some ((t125.length : Int) == 0))) = some r := H
                              have A40 := Aside0.mk A400
                              clear A400
                              by_cases c41 : t126 = 0
                              · rw [if_pos c41] at H
                                have c41b0 : (t126 == 0) = true := beq_iff_eq.mpr c41
                                have c41b1 : (t126 != 0) = false := bne_eq_false_iff_eq.mpr c41
                                clear c41
                                have H' := Aside0.mk H
                                clear H
                                go_wp2_with (first | (go_at_call 30; (with_reducible refine (row_Pick.calls kj25 _ _ l0 _ _ l2 t125 t126 _ ?side1 ?side2 ?side3 ?side4 A40.out).mono ?_); (case side1 => repeat (first | exact (Kd.C_below HR0.out HB.out) | (with_reducible refine Kd.C_alloc ?_ _) | (with_reducible refine Kd.C_drewN ?_ _) | (with_reducible refine Kd.C_drew ?_))); (case side2 => exact HC0.out); (case side3 => repeat (first | exact (Kd.C_below HR2.out HB.out) | (with_reducible refine Kd.C_alloc ?_ _) | (with_reducible refine Kd.C_drewN ?_ _) | (with_reducible refine Kd.C_drew ?_))); (case side4 => exact HC2.out); rintro e w42 ⟨v127, rfl, ho0, hb⟩; have n0_ := Aside0.mk (Kd.R_lower ho0 (below_size (by repeat (first | (with_reducible first | exact HB.out | apply below_alloc | apply pw_below_drewN | apply below_drew1) | exact HB.out)))); have n1_ := Aside0.mk (Kd.C_below (by repeat (first | (with_reducible exact HR121.out) | (with_reducible refine Kd.C_alloc ?_ _) | (with_reducible refine Kd.C_drewN ?_ _) | (with_reducible refine Kd.C_drew ?_) | exact HR121.out)) hb); have n2_ := Aside0.mk (below_step (by repeat (first | (with_reducible first | exact HB.out | apply below_alloc | apply pw_below_drewN | apply below_drew1) | exact HB.out)) hb); clear HR121; clear HB; have HO128 := n0_; have HR121 := n1_; have HB := n2_; clear n0_ n1_ n2_; (try clear hb); (try clear hb2); (try clear hk); (try clear hi); (try clear ho0)))
                                repeat (go_quiet (first | (go_at_call 30; (with_reducible refine (row_Pick.calls kj25 _ _ l0 _ _ l2 t125 t126 _ ?side1 ?side2 ?side3 ?side4 A40.out).mono ?_); (case side1 => repeat (first | exact (Kd.C_below HR0.out HB.out) | (with_reducible refine Kd.C_alloc ?_ _) | (with_reducible refine Kd.C_drewN ?_ _) | (with_reducible refine Kd.C_drew ?_))); (case side2 => exact HC0.out); (case side3 => repeat (first | exact (Kd.C_below HR2.out HB.out) | (with_reducible refine Kd.C_alloc ?_ _) | (with_reducible refine Kd.C_drewN ?_ _) | (with_reducible refine Kd.C_drew ?_))); (case side4 => exact HC2.out); rintro e w42 ⟨v127, rfl, ho0, hb⟩; have n0_ := Aside0.mk (Kd.R_lower ho0 (below_size (by repeat (first | (with_reducible first | exact HB.out | apply below_alloc | apply pw_below_drewN | apply below_drew1) | exact HB.out)))); have n1_ := Aside0.mk (Kd.C_below (by repeat (first | (with_reducible exact HR121.out) | (with_reducible refine Kd.C_alloc ?_ _) | (with_reducible refine Kd.C_drewN ?_ _) | (with_reducible refine Kd.C_drew ?_) | exact HR121.out)) hb); have n2_ := Aside0.mk (below_step (by repeat (first | (with_reducible first | exact HB.out | apply below_alloc | apply pw_below_drewN | apply below_drew1) | exact HB.out)) hb); clear HR121; clear HB; have HO128 := n0_; have HR121 := n1_; have HB := n2_; clear n0_ n1_ n2_; (try clear hb); (try clear hb2); (try clear hk); (try clear hi); (try clear ho0))); try go_wp2_with (first | (go_at_call 30; (with_reducible refine (row_Pick.calls kj25 _ _ l0 _ _ l2 t125 t126 _ ?side1 ?side2 ?side3 ?side4 A40.out).mono ?_); (case side1 => repeat (first | exact (Kd.C_below HR0.out HB.out) | (with_reducible refine Kd.C_alloc ?_ _) | (with_reducible refine Kd.C_drewN ?_ _) | (with_reducible refine Kd.C_drew ?_))); (case side2 => exact HC0.out); (case side3 => repeat (first | exact (Kd.C_below HR2.out HB.out) | (with_reducible refine Kd.C_alloc ?_ _) | (with_reducible refine Kd.C_drewN ?_ _) | (with_reducible refine Kd.C_drew ?_))); (case side4 => exact HC2.out); rintro e w42 ⟨v127, rfl, ho0, hb⟩; have n0_ := Aside0.mk (Kd.R_lower ho0 (below_size (by repeat (first | (with_reducible first | exact HB.out | apply below_alloc | apply pw_below_drewN | apply below_drew1) | exact HB.out)))); have n1_ := Aside0.mk (Kd.C_below (by repeat (first | (with_reducible exact HR121.out) | (with_reducible refine Kd.C_alloc ?_ _) | (with_reducible refine Kd.C_drewN ?_ _) | (with_reducible refine Kd.C_drew ?_) | exact HR121.out)) hb); have n2_ := Aside0.mk (below_step (by repeat (first | (with_reducible first | exact HB.out | apply below_alloc | apply pw_below_drewN | apply below_drew1) | exact HB.out)) hb); clear HR121; clear HB; have HO128 := n0_; have HR121 := n1_; have HB := n2_; clear n0_ n1_ n2_; (try clear hb); (try clear hb2); (try clear hk); (try clear hi); (try clear ho0))))
                                go_loopg [16] kj25 (fun kq v16 w' => ∃ (x14_3 : List (S56)) (x16_3 : Int), v16 = .int .i64 x16_3 ∧ Aside0 (freshetlaw02_RowJoins.l0 kq l0 l2 t102 x14_3 x16_3 = some r) ∧ Aside0 (kq ≤ kj25) ∧ Aside0 (Kd.R k56 56 w' w.heap.size (fun _ => True) v127 x14_3) ∧ Aside0 (Below w.heap.size w w'))
                                case atStart => exact ⟨(t125), (0), (by first | rfl | (simp; done) | (simp [*]; done)), H', ⟨Nat.le_refl _⟩, ⟨by (with_reducible repeat (first | apply Kd.R_alloc | apply Kd.R_drewN | apply Kd.R_drew)); exact HO128.out⟩, ⟨by repeat (first | (with_reducible first | exact HB.out | apply below_alloc | apply pw_below_drewN | apply below_drew1) | exact HB.out)⟩⟩
                                case round =>
                                  clear H'
                                  try clear c1
                                  try clear p1
                                  try clear q1
                                  try clear hx1
                                  try clear c2
                                  try clear p2
                                  try clear c3
                                  try clear q3
                                  try clear c4
                                  try clear c5
                                  try clear p6
                                  try clear c9
                                  try clear c12
                                  try clear c12b0
                                  try clear c12b1
                                  try clear p12
                                  try clear q12
                                  try clear hx12
                                  try clear c13
                                  try clear c13b0
                                  try clear c13b1
                                  try clear c14
                                  try clear c14b0
                                  try clear c14b1
                                  try clear c15
                                  try clear c17
                                  try clear c17b0
                                  try clear c17b1
                                  try clear c18
                                  try clear c18b0
                                  try clear c18b1
                                  try clear c19
                                  try clear c20
                                  try clear c21
                                  try clear c23
                                  try clear c23b0
                                  try clear c23b1
                                  try clear c24
                                  try clear c24b0
                                  try clear c24b1
                                  try clear q32
                                  try clear c35
                                  try clear c35b0
                                  try clear c35b1
                                  try clear c36
                                  try clear c36b0
                                  try clear c36b1
                                  try clear c36b2
                                  try clear c37
                                  try clear c37b0
                                  try clear c37b1
                                  try clear c38
                                  try clear c38b0
                                  try clear c39
                                  try clear c41
                                  try clear c41b0
                                  try clear c41b1
                                  try clear hx124_0
                                  try clear hx124_1
                                  try clear hx124_2
                                  try clear hx124_3
                                  try clear p1
                                  try clear p12
                                  try clear p124
                                  try clear p2
                                  try clear p6
                                  try clear q1
                                  try clear q12
                                  try clear q124
                                  try clear q3
                                  try clear q32
                                  obtain ⟨x14_3, x16_3, rfl, HA, HK3, HO_14, HB⟩ := hrel
                                  cases gk with
                                  | zero => exact absurd HA.out (by simp [freshetlaw02_RowJoins.l0])
                                  | succ k3 =>
                                    have H := HA.out
                                    clear HA
                                    simp only [freshetlaw02_RowJoins.l0] at H
                                    by_cases c43 : x16_3 < (l2.length : Int)
                                    · rw [if_pos c43] at H
                                      have c43b0 : decide (x16_3 < (l2.length : Int)) = true := decide_eq_true c43
                                      clear c43
                                      by_cases c44 : 0 ≤ x16_3
                                      · rw [if_pos c44] at H
                                        have c44b0 : decide (0 ≤ x16_3) = true := decide_eq_true c44
                                        clear c44
                                        by_cases c45 : (rd l2 x16_3) < 0
                                        · rw [if_pos c45] at H
                                          have c45b0 : decide ((rd l2 x16_3) < 0) = true := decide_eq_true c45
                                          clear c45
                                          obtain rfl := Option.some.inj H
                                          have p129 : 0 ≤ (x16_3 : Int) := of_decide_eq_true (by first | (with_reducible assumption) | assumption)
                                          have q129 : x16_3 < (l2.length : Int) := of_decide_eq_true (by first | (with_reducible assumption) | assumption)
                                          obtain ⟨ad129, e129, hx129_0⟩ := Kd.at_int HR2.out x16_3 p129 q129
                                          cases e129
                                          replace hx129_0 := (HB.out.cell (World.block_lt_of_cell? w _ hx129_0)).trans hx129_0
                                          replace p129 := eq_true p129
                                          replace q129 := eq_true q129
                                          go_wp2
                                          repeat (go_quiet (fail); try go_wp2)
                                          go_ret
                                          exact ⟨by first | rfl | (simp [errW_none, errW_some] <;> rfl) | (simp only [← hji16, ← hji22]; first | rfl | (simp [errW_none, errW_some] <;> rfl)) | (simp [*, errW_none, errW_some] <;> rfl), by repeat (first | (with_reducible first | exact HB.out | apply below_alloc | apply pw_below_drewN | apply below_drew1) | exact HB.out)⟩
                                        · rw [if_neg c45] at H
                                          have c45b0 : decide ((rd l2 x16_3) < 0) = false := decide_eq_false c45
                                          clear c45
                                          by_cases c46 : (rd l2 x16_3) ≥ (l0.length : Int)
                                          · rw [if_pos c46] at H
                                            have c46b0 : decide ((l0.length : Int) ≤ (rd l2 x16_3)) = true := decide_eq_true c46
                                            clear c46
                                            obtain rfl := Option.some.inj H
                                            have p129 : 0 ≤ (x16_3 : Int) := of_decide_eq_true (by first | (with_reducible assumption) | assumption)
                                            have q129 : x16_3 < (l2.length : Int) := of_decide_eq_true (by first | (with_reducible assumption) | assumption)
                                            obtain ⟨ad129, e129, hx129_0⟩ := Kd.at_int HR2.out x16_3 p129 q129
                                            cases e129
                                            replace hx129_0 := (HB.out.cell (World.block_lt_of_cell? w _ hx129_0)).trans hx129_0
                                            replace p129 := eq_true p129
                                            replace q129 := eq_true q129
                                            have p130 : 0 ≤ (x16_3 : Int) := of_decide_eq_true (by first | (with_reducible assumption) | assumption)
                                            have q130 : x16_3 < (l2.length : Int) := of_decide_eq_true (by first | (with_reducible assumption) | assumption)
                                            obtain ⟨ad130, e130, hx130_0⟩ := Kd.at_int HR2.out x16_3 p130 q130
                                            obtain rfl : ad129 = ad130 := (by injection e130)
                                            replace hx130_0 := (HB.out.cell (World.block_lt_of_cell? w _ hx130_0)).trans hx130_0
                                            replace p130 := eq_true p130
                                            replace q130 := eq_true q130
                                            go_wp2
                                            repeat (go_quiet (fail); try go_wp2)
                                            go_ret
                                            exact ⟨by first | rfl | (simp [errW_none, errW_some] <;> rfl) | (simp only [← hji16, ← hji22]; first | rfl | (simp [errW_none, errW_some] <;> rfl)) | (simp [*, errW_none, errW_some] <;> rfl), by repeat (first | (with_reducible first | exact HB.out | apply below_alloc | apply pw_below_drewN | apply below_drew1) | exact HB.out)⟩
                                          · rw [if_neg c46] at H
                                            have c46b0 : decide ((l0.length : Int) ≤ (rd l2 x16_3)) = false := decide_eq_false c46
                                            clear c46
                                            by_cases c47 : x16_3 < (x14_3.length : Int)
                                            · rw [if_pos c47] at H
                                              have c47b0 : decide (x16_3 < (x14_3.length : Int)) = true := decide_eq_true c47
                                              clear c47
                                              by_cases c48 : 0 ≤ (rd l2 x16_3)
                                              · rw [if_pos c48] at H
                                                have c48b0 : decide (0 ≤ (rd l2 x16_3)) = true := decide_eq_true c48
                                                clear c48
                                                by_cases c49 : (rd l2 x16_3) < (l0.length : Int)
                                                · rw [if_pos c49] at H
                                                  have c49b0 : decide ((rd l2 x16_3) < (l0.length : Int)) = true := decide_eq_true c49
                                                  clear c49
                                                  by_cases c50 : (!(((rd_T56 x14_3 x16_3).f0) == ((rd_T56 l0 (rd l2 x16_3)).f0)) || (!(((rd_T56 x14_3 x16_3).f1) == ((rd_T56 l0 (rd l2 x16_3)).f1)) || (!(((rd_T56 x14_3 x16_3).f2) == ((rd_T56 l0 (rd l2 x16_3)).f2)) || (!((((rd_T56 x14_3 x16_3).f3).toList) == (((rd_T56 l0 (rd l2 x16_3)).f3).toList)))))) = true
                                                  · rw [if_pos c50] at H
                                                    have c50b0 : (!(((rd_T56 x14_3 x16_3).f0) == ((rd_T56 l0 (rd l2 x16_3)).f0)) || (!(((rd_T56 x14_3 x16_3).f1) == ((rd_T56 l0 (rd l2 x16_3)).f1)) || (!(((rd_T56 x14_3 x16_3).f2) == ((rd_T56 l0 (rd l2 x16_3)).f2)) || (!((((rd_T56 x14_3 x16_3).f3).toList) == (((rd_T56 l0 (rd l2 x16_3)).f3).toList)))))) = true := c50
                                                    clear c50
                                                    obtain rfl := Option.some.inj H
                                                    have p129 : 0 ≤ (x16_3 : Int) := of_decide_eq_true (by first | (with_reducible assumption) | assumption)
                                                    have q129 : x16_3 < (l2.length : Int) := of_decide_eq_true (by first | (with_reducible assumption) | assumption)
                                                    obtain ⟨ad129, e129, hx129_0⟩ := Kd.at_int HR2.out x16_3 p129 q129
                                                    cases e129
                                                    replace hx129_0 := (HB.out.cell (World.block_lt_of_cell? w _ hx129_0)).trans hx129_0
                                                    replace p129 := eq_true p129
                                                    replace q129 := eq_true q129
                                                    have p130 : 0 ≤ (x16_3 : Int) := of_decide_eq_true (by first | (with_reducible assumption) | assumption)
                                                    have q130 : x16_3 < (l2.length : Int) := of_decide_eq_true (by first | (with_reducible assumption) | assumption)
                                                    obtain ⟨ad130, e130, hx130_0⟩ := Kd.at_int HR2.out x16_3 p130 q130
                                                    obtain rfl : ad129 = ad130 := (by injection e130)
                                                    replace hx130_0 := (HB.out.cell (World.block_lt_of_cell? w _ hx130_0)).trans hx130_0
                                                    replace p130 := eq_true p130
                                                    replace q130 := eq_true q130
                                                    obtain ⟨Ao51, co51, eo51⟩ := Kd.R_slice HO_14.out
                                                    subst eo51
                                                    have p131 : 0 ≤ (x16_3 : Int) := of_decide_eq_true (by first | (with_reducible assumption) | assumption)
                                                    have q131 : x16_3 < (x14_3.length : Int) := of_decide_eq_true (by first | (with_reducible assumption) | assumption)
                                                    obtain ⟨ad131, e131, hx131_0, hx131_1, hx131_2, hx131_3⟩ := at_T56 (Kd.R_reads' HO_14.out).2.2 x16_3 p131 q131
                                                    cases e131
                                                    replace p131 := eq_true p131
                                                    replace q131 := eq_true q131
                                                    have p132 : 0 ≤ (x16_3 : Int) := of_decide_eq_true (by first | (with_reducible assumption) | assumption)
                                                    have q132 : x16_3 < (l2.length : Int) := of_decide_eq_true (by first | (with_reducible assumption) | assumption)
                                                    obtain ⟨ad132, e132, hx132_0⟩ := Kd.at_int HR2.out x16_3 p132 q132
                                                    obtain rfl : ad129 = ad132 := (by injection e132)
                                                    replace hx132_0 := (HB.out.cell (World.block_lt_of_cell? w _ hx132_0)).trans hx132_0
                                                    replace p132 := eq_true p132
                                                    replace q132 := eq_true q132
                                                    have p133 : 0 ≤ ((rd l2 x16_3) : Int) := of_decide_eq_true (by first | (with_reducible assumption) | assumption)
                                                    have q133 : (rd l2 x16_3) < (l0.length : Int) := of_decide_eq_true (by first | (with_reducible assumption) | assumption)
                                                    obtain ⟨ad133, e133, hx133_0, hx133_1, hx133_2, hx133_3⟩ := at_T56 HR0.out (rd l2 x16_3) p133 q133
                                                    cases e133
                                                    replace hx133_0 := (HB.out.cell (World.block_lt_of_cell? w _ hx133_0)).trans hx133_0
                                                    replace hx133_1 := (HB.out.cell (World.block_lt_of_cell? w _ hx133_1)).trans hx133_1
                                                    replace hx133_2 := (HB.out.cell (World.block_lt_of_cell? w _ hx133_2)).trans hx133_2
                                                    replace hx133_3 := (HB.out.cell (World.block_lt_of_cell? w _ hx133_3)).trans hx133_3
                                                    replace p133 := eq_true p133
                                                    replace q133 := eq_true q133
                                                    go_wp2
                                                    repeat (go_quiet (fail); try go_wp2)
                                                    go_ret
                                                    exact ⟨by first | rfl | (simp [errW_none, errW_some] <;> rfl) | (simp only [← hji16, ← hji22]; first | rfl | (simp [errW_none, errW_some] <;> rfl)) | (simp [*, errW_none, errW_some] <;> rfl), by repeat (first | (with_reducible first | exact HB.out | apply below_alloc | apply pw_below_drewN | apply below_drew1) | exact HB.out)⟩
                                                  · rw [if_neg c50] at H
                                                    have c50b0 : (!(((rd_T56 x14_3 x16_3).f0) == ((rd_T56 l0 (rd l2 x16_3)).f0)) || (!(((rd_T56 x14_3 x16_3).f1) == ((rd_T56 l0 (rd l2 x16_3)).f1)) || (!(((rd_T56 x14_3 x16_3).f2) == ((rd_T56 l0 (rd l2 x16_3)).f2)) || (!((((rd_T56 x14_3 x16_3).f3).toList) == (((rd_T56 l0 (rd l2 x16_3)).f3).toList)))))) = false := by simpa using c50
                                                    clear c50
                                                    obtain ⟨y134, hy134⟩ : ∃ y_ : List (S56), y_ = (x14_3.set (x16_3 : Int).toNat (⟨78, 0, 0, (⟨#[]⟩ : ByteArray)⟩ : S56)) := ⟨_, rfl⟩
                                                    replace H : (freshetlaw02_RowJoins.l0 k3 l0 l2 t102 y134 (wrap64 (x16_3 + 1))) = some r := by first | (rw [hy134]; with_reducible exact H) | (have H2_ := (Option.bind_some _ _).symm.trans H; rw [hy134]; with_reducible exact H2_) | (have H2_ := (Option.bind_some _ _).symm.trans H; with_reducible exact H2_) | with_reducible exact H | (rw [hy134]; exact H) | exact H
                                                    have Ny134 := Aside0.mk hy134
                                                    clear hy134
                                                    have H' := Aside0.mk H
                                                    clear H
                                                    have p129 : 0 ≤ (x16_3 : Int) := of_decide_eq_true (by first | (with_reducible assumption) | assumption)
                                                    have q129 : x16_3 < (l2.length : Int) := of_decide_eq_true (by first | (with_reducible assumption) | assumption)
                                                    obtain ⟨ad129, e129, hx129_0⟩ := Kd.at_int HR2.out x16_3 p129 q129
                                                    cases e129
                                                    replace hx129_0 := (HB.out.cell (World.block_lt_of_cell? w _ hx129_0)).trans hx129_0
                                                    replace p129 := eq_true p129
                                                    replace q129 := eq_true q129
                                                    have p130 : 0 ≤ (x16_3 : Int) := of_decide_eq_true (by first | (with_reducible assumption) | assumption)
                                                    have q130 : x16_3 < (l2.length : Int) := of_decide_eq_true (by first | (with_reducible assumption) | assumption)
                                                    obtain ⟨ad130, e130, hx130_0⟩ := Kd.at_int HR2.out x16_3 p130 q130
                                                    obtain rfl : ad129 = ad130 := (by injection e130)
                                                    replace hx130_0 := (HB.out.cell (World.block_lt_of_cell? w _ hx130_0)).trans hx130_0
                                                    replace p130 := eq_true p130
                                                    replace q130 := eq_true q130
                                                    obtain ⟨Ao53, co53, eo53⟩ := Kd.R_slice HO_14.out
                                                    subst eo53
                                                    have p131 : 0 ≤ (x16_3 : Int) := of_decide_eq_true (by first | (with_reducible assumption) | assumption)
                                                    have q131 : x16_3 < (x14_3.length : Int) := of_decide_eq_true (by first | (with_reducible assumption) | assumption)
                                                    obtain ⟨ad131, e131, hx131_0, hx131_1, hx131_2, hx131_3⟩ := at_T56 (Kd.R_reads' HO_14.out).2.2 x16_3 p131 q131
                                                    cases e131
                                                    replace p131 := eq_true p131
                                                    replace q131 := eq_true q131
                                                    have p132 : 0 ≤ (x16_3 : Int) := of_decide_eq_true (by first | (with_reducible assumption) | assumption)
                                                    have q132 : x16_3 < (l2.length : Int) := of_decide_eq_true (by first | (with_reducible assumption) | assumption)
                                                    obtain ⟨ad132, e132, hx132_0⟩ := Kd.at_int HR2.out x16_3 p132 q132
                                                    obtain rfl : ad129 = ad132 := (by injection e132)
                                                    replace hx132_0 := (HB.out.cell (World.block_lt_of_cell? w _ hx132_0)).trans hx132_0
                                                    replace p132 := eq_true p132
                                                    replace q132 := eq_true q132
                                                    have p133 : 0 ≤ ((rd l2 x16_3) : Int) := of_decide_eq_true (by first | (with_reducible assumption) | assumption)
                                                    have q133 : (rd l2 x16_3) < (l0.length : Int) := of_decide_eq_true (by first | (with_reducible assumption) | assumption)
                                                    obtain ⟨ad133, e133, hx133_0, hx133_1, hx133_2, hx133_3⟩ := at_T56 HR0.out (rd l2 x16_3) p133 q133
                                                    cases e133
                                                    replace hx133_0 := (HB.out.cell (World.block_lt_of_cell? w _ hx133_0)).trans hx133_0
                                                    replace hx133_1 := (HB.out.cell (World.block_lt_of_cell? w _ hx133_1)).trans hx133_1
                                                    replace hx133_2 := (HB.out.cell (World.block_lt_of_cell? w _ hx133_2)).trans hx133_2
                                                    replace hx133_3 := (HB.out.cell (World.block_lt_of_cell? w _ hx133_3)).trans hx133_3
                                                    replace p133 := eq_true p133
                                                    replace q133 := eq_true q133
                                                    have p52 : 0 ≤ (x16_3 : Int) := of_decide_eq_true (by first | (with_reducible assumption) | assumption)
                                                    have q52 : (x16_3 : Int) < ((x14_3.length : Int) : Int) := of_decide_eq_true (by first | (with_reducible assumption) | assumption)
                                                    obtain ⟨go52, co52, eo52, gb52, gl52, cl52, HG52⟩ := Kd.R_form HO_14.out (by omega)
                                                    (first | cases eo52 | (injection eo52 with ea_ en_ ec_; (first | subst ea_ | (injection ea_ with ea_; subst ea_)); subst ec_; clear en_))
                                                    have GB52 := Aside0.mk gb52
                                                    have GG52 := Aside0.mk HG52
                                                    clear gb52 gl52 HG52
                                                    (first | simp only [add_plain] at hx131_0 | skip)
                                                    (first | simp only [add_plain] at hx131_1 | skip)
                                                    (first | simp only [add_plain] at hx131_2 | skip)
                                                    (first | simp only [add_plain] at hx131_3 | skip)
                                                    obtain ⟨ce52, hcl52, hM52, hcc52, hfr52⟩ := Kd.R_elem HO_14.out z56 (x16_3 : Int) p52 q52
                                                    obtain rfl := k56_openM hM52
                                                    have hx52_0 : wr.cell? ⟨go52, (x16_3 : Int).toNat * 4, none⟩ = some (.int .i64 ((rd_T56 x14_3 x16_3).f0)) := hcc52 0 _ rfl
                                                    have hx52_1 : wr.cell? ⟨go52, (x16_3 : Int).toNat * 4 + 1, none⟩ = some (.int .i64 ((rd_T56 x14_3 x16_3).f1)) := hcc52 1 _ rfl
                                                    have hx52_2 : wr.cell? ⟨go52, (x16_3 : Int).toNat * 4 + 2, none⟩ = some (.int .u64 ((rd_T56 x14_3 x16_3).f2)) := hcc52 2 _ rfl
                                                    have hx52_3 : wr.cell? ⟨go52, (x16_3 : Int).toNat * 4 + 3, none⟩ = some (.string ((rd_T56 x14_3 x16_3).f3)) := hcc52 3 _ rfl
                                                    have hf52_0 : wr.frozen? ⟨go52, (x16_3 : Int).toNat * 4, none⟩ = false := hfr52 0
                                                    have hf52_1 : wr.frozen? ⟨go52, (x16_3 : Int).toNat * 4 + 1, none⟩ = false := hfr52 1
                                                    have hf52_2 : wr.frozen? ⟨go52, (x16_3 : Int).toNat * 4 + 2, none⟩ = false := hfr52 2
                                                    have hf52_3 : wr.frozen? ⟨go52, (x16_3 : Int).toNat * 4 + 3, none⟩ = false := hfr52 3
                                                    clear hcl52 hcc52 hfr52 hM52
                                                    replace p52 := eq_true p52
                                                    replace q52 := eq_true q52
                                                    have HX54 := Aside0.mk (show Kd.R k56 56 wr w.heap.size (fun _ => True) (.slice (some ⟨go52, 0, none⟩) x14_3.length co53) x14_3 from (by (with_reducible repeat (first | apply Kd.R_alloc | apply Kd.R_drewN | apply Kd.R_drew)); exact HO_14.out))
                                                    obtain ⟨ce54, hcl54, hM54, hcc54, hfr54⟩ := Kd.R_elem HX54.out z56 (x16_3 : Int) (of_decide_eq_true (by first | (with_reducible assumption) | assumption)) (by have h_ : (x16_3 : Int) < ((x14_3.length : Int) : Int) := of_decide_eq_true (by first | (with_reducible assumption) | assumption); first | exact h_ | (have e_ := (Kd.R_reads' HO_14.out).1; omega) | simpa using h_)
                                                    obtain rfl := k56_openM hM54
                                                    have HP54 := Kd.R_seg HX54.out (x16_3 : Int) (of_decide_eq_true (by first | (with_reducible assumption) | assumption)) (by have h_ : (x16_3 : Int) < ((x14_3.length : Int) : Int) := of_decide_eq_true (by first | (with_reducible assumption) | assumption); first | exact h_ | (have e_ := (Kd.R_reads' HO_14.out).1; omega) | simpa using h_) (seg := [.int .i64 78, .int .i64 0, .int .u64 0, .string (⟨#[]⟩ : ByteArray)]) (j := 0) hcl54 hcc54 (show 4 ≤ 4 from by decide) (x' := (⟨78, 0, 0, (⟨#[]⟩ : ByteArray)⟩ : S56)) (k56_mkM _ _ _ (⟨78, 0, 0, (⟨#[]⟩ : ByteArray)⟩ : S56) ) (fun _ hk => hk)
                                                    have hx54_0 := hcc54 0 _ rfl
                                                    (try simp only [show (k56).sz = 4 from rfl, Nat.mul_one, Nat.add_zero] at hx54_0)
                                                    have hf54_0 := hfr54 0
                                                    (try simp only [show (k56).sz = 4 from rfl, Nat.mul_one, Nat.add_zero] at hf54_0)
                                                    have hx54_1 := hcc54 1 _ rfl
                                                    (try simp only [show (k56).sz = 4 from rfl, Nat.mul_one, Nat.add_zero] at hx54_1)
                                                    have hf54_1 := hfr54 1
                                                    (try simp only [show (k56).sz = 4 from rfl, Nat.mul_one, Nat.add_zero] at hf54_1)
                                                    have hx54_2 := hcc54 2 _ rfl
                                                    (try simp only [show (k56).sz = 4 from rfl, Nat.mul_one, Nat.add_zero] at hx54_2)
                                                    have hf54_2 := hfr54 2
                                                    (try simp only [show (k56).sz = 4 from rfl, Nat.mul_one, Nat.add_zero] at hf54_2)
                                                    have hx54_3 := hcc54 3 _ rfl
                                                    (try simp only [show (k56).sz = 4 from rfl, Nat.mul_one, Nat.add_zero] at hx54_3)
                                                    have hf54_3 := hfr54 3
                                                    (try simp only [show (k56).sz = 4 from rfl, Nat.mul_one, Nat.add_zero] at hf54_3)
                                                    clear hcl54 hcc54 hfr54 hM54
                                                    go_wp2_with (first | ((with_reducible refine gate_store (t := 56) (p := 144) rfl ?_); (try (rw [drewN_self wr]; generalize hq_ : World.drewN wr _ = wr; have n0_ := Aside0.mk (Kd.R_at hq_ HO_14.out); have n1_ := Aside0.mk (below_at hq_ HB.out); clear hq_ HO_14 HB; have HO_14 := n0_; have HB := n1_; clear n0_ n1_; (try (have HX54 := Aside0.mk (show Kd.R k56 56 wr w.heap.size (fun _ => True) (.slice (some ⟨go52, 0, none⟩) x14_3.length co53) x14_3 from (by (with_reducible repeat (first | apply Kd.R_alloc | apply Kd.R_drewN | apply Kd.R_drew)); exact HO_14.out)))); (try (obtain ⟨ce54, hcl54, hM54, hcc54, hfr54⟩ := Kd.R_elem HX54.out z56 (x16_3 : Int) (of_decide_eq_true (by first | (with_reducible assumption) | assumption)) (by have h_ : (x16_3 : Int) < ((x14_3.length : Int) : Int) := of_decide_eq_true (by first | (with_reducible assumption) | assumption); first | exact h_ | (have e_ := (Kd.R_reads' HO_14.out).1; omega) | simpa using h_))); (try (obtain rfl := k56_openM hM54)); (try (have HP54 := Kd.R_seg HX54.out (x16_3 : Int) (of_decide_eq_true (by first | (with_reducible assumption) | assumption)) (by have h_ : (x16_3 : Int) < ((x14_3.length : Int) : Int) := of_decide_eq_true (by first | (with_reducible assumption) | assumption); first | exact h_ | (have e_ := (Kd.R_reads' HO_14.out).1; omega) | simpa using h_) (seg := [.int .i64 78, .int .i64 0, .int .u64 0, .string (⟨#[]⟩ : ByteArray)]) (j := 0) hcl54 hcc54 (show 4 ≤ 4 from by decide) (x' := (⟨78, 0, 0, (⟨#[]⟩ : ByteArray)⟩ : S56)) (k56_mkM _ _ _ (⟨78, 0, 0, (⟨#[]⟩ : ByteArray)⟩ : S56) ) (fun _ hk => hk))); (try (have hx54_0 := hcc54 0 _ rfl)); (try (try simp only [show (k56).sz = 4 from rfl, Nat.mul_one, Nat.add_zero] at hx54_0)); (try (have hf54_0 := hfr54 0)); (try (try simp only [show (k56).sz = 4 from rfl, Nat.mul_one, Nat.add_zero] at hf54_0)); (try (have hx54_1 := hcc54 1 _ rfl)); (try (try simp only [show (k56).sz = 4 from rfl, Nat.mul_one, Nat.add_zero] at hx54_1)); (try (have hf54_1 := hfr54 1)); (try (try simp only [show (k56).sz = 4 from rfl, Nat.mul_one, Nat.add_zero] at hf54_1)); (try (have hx54_2 := hcc54 2 _ rfl)); (try (try simp only [show (k56).sz = 4 from rfl, Nat.mul_one, Nat.add_zero] at hx54_2)); (try (have hf54_2 := hfr54 2)); (try (try simp only [show (k56).sz = 4 from rfl, Nat.mul_one, Nat.add_zero] at hf54_2)); (try (have hx54_3 := hcc54 3 _ rfl)); (try (try simp only [show (k56).sz = 4 from rfl, Nat.mul_one, Nat.add_zero] at hx54_3)); (try (have hf54_3 := hfr54 3)); (try (try simp only [show (k56).sz = 4 from rfl, Nat.mul_one, Nat.add_zero] at hf54_3)); (try (clear hcl54 hcc54 hfr54 hM54)))); refine store_event (t := 56) (p := 144) (v := ?vo_w55) (w1 := ((((wr.setCell ⟨go52, (x16_3 : Int).toNat * 4, none⟩ (.int .i64 78)).setCell ⟨go52, (x16_3 : Int).toNat * 4 + 1, none⟩ (.int .i64 0)).setCell ⟨go52, (x16_3 : Int).toNat * 4 + 2, none⟩ (.int .u64 0)).setCell ⟨go52, (x16_3 : Int).toNat * 4 + 3, none⟩ (.string (⟨#[]⟩ : ByteArray)))) ?hg ?ho ?hn ?hr ?_; (case ho => rfl); (case hg => rfl); (case hn => rfl); (case hr => first | (go_simp; done) | (go_simp; rfl)); intro w55 hw; have hg : wr.grownBy w55 (some go52) := (by rw [hw]; exact HP54.2); have hp_ : Kd.R k56 56 w55 w.heap.size (fun _ => True) (.slice (some ⟨go52, 0, none⟩) x14_3.length co53) y134 := (by rw [hw, Ny134.out]; exact HP54.1); clear HP54; have n0_ := Aside0.mk (hp_); have n1_ := Aside0.mk ((by rw [hw]; exact below_set (below_set (below_set (below_set (HB.out) GB52.out) GB52.out) GB52.out) GB52.out : Below w.heap.size w w55)); clear HO_14; clear HB; have HO_14 := n0_; have HB := n1_; clear n0_ n1_; clear hg hw hp_))
                                                    repeat (go_quiet (first | ((with_reducible refine gate_store (t := 56) (p := 144) rfl ?_); (try (rw [drewN_self wr]; generalize hq_ : World.drewN wr _ = wr; have n0_ := Aside0.mk (Kd.R_at hq_ HO_14.out); have n1_ := Aside0.mk (below_at hq_ HB.out); clear hq_ HO_14 HB; have HO_14 := n0_; have HB := n1_; clear n0_ n1_; (try (have HX54 := Aside0.mk (show Kd.R k56 56 wr w.heap.size (fun _ => True) (.slice (some ⟨go52, 0, none⟩) x14_3.length co53) x14_3 from (by (with_reducible repeat (first | apply Kd.R_alloc | apply Kd.R_drewN | apply Kd.R_drew)); exact HO_14.out)))); (try (obtain ⟨ce54, hcl54, hM54, hcc54, hfr54⟩ := Kd.R_elem HX54.out z56 (x16_3 : Int) (of_decide_eq_true (by first | (with_reducible assumption) | assumption)) (by have h_ : (x16_3 : Int) < ((x14_3.length : Int) : Int) := of_decide_eq_true (by first | (with_reducible assumption) | assumption); first | exact h_ | (have e_ := (Kd.R_reads' HO_14.out).1; omega) | simpa using h_))); (try (obtain rfl := k56_openM hM54)); (try (have HP54 := Kd.R_seg HX54.out (x16_3 : Int) (of_decide_eq_true (by first | (with_reducible assumption) | assumption)) (by have h_ : (x16_3 : Int) < ((x14_3.length : Int) : Int) := of_decide_eq_true (by first | (with_reducible assumption) | assumption); first | exact h_ | (have e_ := (Kd.R_reads' HO_14.out).1; omega) | simpa using h_) (seg := [.int .i64 78, .int .i64 0, .int .u64 0, .string (⟨#[]⟩ : ByteArray)]) (j := 0) hcl54 hcc54 (show 4 ≤ 4 from by decide) (x' := (⟨78, 0, 0, (⟨#[]⟩ : ByteArray)⟩ : S56)) (k56_mkM _ _ _ (⟨78, 0, 0, (⟨#[]⟩ : ByteArray)⟩ : S56) ) (fun _ hk => hk))); (try (have hx54_0 := hcc54 0 _ rfl)); (try (try simp only [show (k56).sz = 4 from rfl, Nat.mul_one, Nat.add_zero] at hx54_0)); (try (have hf54_0 := hfr54 0)); (try (try simp only [show (k56).sz = 4 from rfl, Nat.mul_one, Nat.add_zero] at hf54_0)); (try (have hx54_1 := hcc54 1 _ rfl)); (try (try simp only [show (k56).sz = 4 from rfl, Nat.mul_one, Nat.add_zero] at hx54_1)); (try (have hf54_1 := hfr54 1)); (try (try simp only [show (k56).sz = 4 from rfl, Nat.mul_one, Nat.add_zero] at hf54_1)); (try (have hx54_2 := hcc54 2 _ rfl)); (try (try simp only [show (k56).sz = 4 from rfl, Nat.mul_one, Nat.add_zero] at hx54_2)); (try (have hf54_2 := hfr54 2)); (try (try simp only [show (k56).sz = 4 from rfl, Nat.mul_one, Nat.add_zero] at hf54_2)); (try (have hx54_3 := hcc54 3 _ rfl)); (try (try simp only [show (k56).sz = 4 from rfl, Nat.mul_one, Nat.add_zero] at hx54_3)); (try (have hf54_3 := hfr54 3)); (try (try simp only [show (k56).sz = 4 from rfl, Nat.mul_one, Nat.add_zero] at hf54_3)); (try (clear hcl54 hcc54 hfr54 hM54)))); refine store_event (t := 56) (p := 144) (v := ?vo_w55) (w1 := ((((wr.setCell ⟨go52, (x16_3 : Int).toNat * 4, none⟩ (.int .i64 78)).setCell ⟨go52, (x16_3 : Int).toNat * 4 + 1, none⟩ (.int .i64 0)).setCell ⟨go52, (x16_3 : Int).toNat * 4 + 2, none⟩ (.int .u64 0)).setCell ⟨go52, (x16_3 : Int).toNat * 4 + 3, none⟩ (.string (⟨#[]⟩ : ByteArray)))) ?hg ?ho ?hn ?hr ?_; (case ho => rfl); (case hg => rfl); (case hn => rfl); (case hr => first | (go_simp; done) | (go_simp; rfl)); intro w55 hw; have hg : wr.grownBy w55 (some go52) := (by rw [hw]; exact HP54.2); have hp_ : Kd.R k56 56 w55 w.heap.size (fun _ => True) (.slice (some ⟨go52, 0, none⟩) x14_3.length co53) y134 := (by rw [hw, Ny134.out]; exact HP54.1); clear HP54; have n0_ := Aside0.mk (hp_); have n1_ := Aside0.mk ((by rw [hw]; exact below_set (below_set (below_set (below_set (HB.out) GB52.out) GB52.out) GB52.out) GB52.out : Below w.heap.size w w55)); clear HO_14; clear HB; have HO_14 := n0_; have HB := n1_; clear n0_ n1_; clear hg hw hp_)); try go_wp2_with (first | ((with_reducible refine gate_store (t := 56) (p := 144) rfl ?_); (try (rw [drewN_self wr]; generalize hq_ : World.drewN wr _ = wr; have n0_ := Aside0.mk (Kd.R_at hq_ HO_14.out); have n1_ := Aside0.mk (below_at hq_ HB.out); clear hq_ HO_14 HB; have HO_14 := n0_; have HB := n1_; clear n0_ n1_; (try (have HX54 := Aside0.mk (show Kd.R k56 56 wr w.heap.size (fun _ => True) (.slice (some ⟨go52, 0, none⟩) x14_3.length co53) x14_3 from (by (with_reducible repeat (first | apply Kd.R_alloc | apply Kd.R_drewN | apply Kd.R_drew)); exact HO_14.out)))); (try (obtain ⟨ce54, hcl54, hM54, hcc54, hfr54⟩ := Kd.R_elem HX54.out z56 (x16_3 : Int) (of_decide_eq_true (by first | (with_reducible assumption) | assumption)) (by have h_ : (x16_3 : Int) < ((x14_3.length : Int) : Int) := of_decide_eq_true (by first | (with_reducible assumption) | assumption); first | exact h_ | (have e_ := (Kd.R_reads' HO_14.out).1; omega) | simpa using h_))); (try (obtain rfl := k56_openM hM54)); (try (have HP54 := Kd.R_seg HX54.out (x16_3 : Int) (of_decide_eq_true (by first | (with_reducible assumption) | assumption)) (by have h_ : (x16_3 : Int) < ((x14_3.length : Int) : Int) := of_decide_eq_true (by first | (with_reducible assumption) | assumption); first | exact h_ | (have e_ := (Kd.R_reads' HO_14.out).1; omega) | simpa using h_) (seg := [.int .i64 78, .int .i64 0, .int .u64 0, .string (⟨#[]⟩ : ByteArray)]) (j := 0) hcl54 hcc54 (show 4 ≤ 4 from by decide) (x' := (⟨78, 0, 0, (⟨#[]⟩ : ByteArray)⟩ : S56)) (k56_mkM _ _ _ (⟨78, 0, 0, (⟨#[]⟩ : ByteArray)⟩ : S56) ) (fun _ hk => hk))); (try (have hx54_0 := hcc54 0 _ rfl)); (try (try simp only [show (k56).sz = 4 from rfl, Nat.mul_one, Nat.add_zero] at hx54_0)); (try (have hf54_0 := hfr54 0)); (try (try simp only [show (k56).sz = 4 from rfl, Nat.mul_one, Nat.add_zero] at hf54_0)); (try (have hx54_1 := hcc54 1 _ rfl)); (try (try simp only [show (k56).sz = 4 from rfl, Nat.mul_one, Nat.add_zero] at hx54_1)); (try (have hf54_1 := hfr54 1)); (try (try simp only [show (k56).sz = 4 from rfl, Nat.mul_one, Nat.add_zero] at hf54_1)); (try (have hx54_2 := hcc54 2 _ rfl)); (try (try simp only [show (k56).sz = 4 from rfl, Nat.mul_one, Nat.add_zero] at hx54_2)); (try (have hf54_2 := hfr54 2)); (try (try simp only [show (k56).sz = 4 from rfl, Nat.mul_one, Nat.add_zero] at hf54_2)); (try (have hx54_3 := hcc54 3 _ rfl)); (try (try simp only [show (k56).sz = 4 from rfl, Nat.mul_one, Nat.add_zero] at hx54_3)); (try (have hf54_3 := hfr54 3)); (try (try simp only [show (k56).sz = 4 from rfl, Nat.mul_one, Nat.add_zero] at hf54_3)); (try (clear hcl54 hcc54 hfr54 hM54)))); refine store_event (t := 56) (p := 144) (v := ?vo_w55) (w1 := ((((wr.setCell ⟨go52, (x16_3 : Int).toNat * 4, none⟩ (.int .i64 78)).setCell ⟨go52, (x16_3 : Int).toNat * 4 + 1, none⟩ (.int .i64 0)).setCell ⟨go52, (x16_3 : Int).toNat * 4 + 2, none⟩ (.int .u64 0)).setCell ⟨go52, (x16_3 : Int).toNat * 4 + 3, none⟩ (.string (⟨#[]⟩ : ByteArray)))) ?hg ?ho ?hn ?hr ?_; (case ho => rfl); (case hg => rfl); (case hn => rfl); (case hr => first | (go_simp; done) | (go_simp; rfl)); intro w55 hw; have hg : wr.grownBy w55 (some go52) := (by rw [hw]; exact HP54.2); have hp_ : Kd.R k56 56 w55 w.heap.size (fun _ => True) (.slice (some ⟨go52, 0, none⟩) x14_3.length co53) y134 := (by rw [hw, Ny134.out]; exact HP54.1); clear HP54; have n0_ := Aside0.mk (hp_); have n1_ := Aside0.mk ((by rw [hw]; exact below_set (below_set (below_set (below_set (HB.out) GB52.out) GB52.out) GB52.out) GB52.out : Below w.heap.size w w55)); clear HO_14; clear HB; have HO_14 := n0_; have HB := n1_; clear n0_ n1_; clear hg hw hp_)))
                                                    go_roundg k3
                                                    case measure => have := HJ7.out; have := HJ25.out; have := HK3.out; omega
                                                    case rel =>
                                                      refine ⟨(y134), (wrap64 (x16_3 + 1)), rfl, H', ⟨by have := HJ7.out; have := HJ25.out; have := HK3.out; omega⟩, ?_, ?_⟩
                                                      · have HX55 := Kd.R_drewN HO_14.out nq
                                                        have P0 : (0 : Int) ≤ x16_3 := of_decide_eq_true c44b0
                                                        have P1 : x16_3 < ((x14_3.length : Nat) : Int) := of_decide_eq_true c47b0
                                                        clear HP54
                                                        obtain ⟨ce55, hcl55, hM55, hcc55, hfr55⟩ := Kd.R_elem HX55 z56 (x16_3 : Int) P0 P1
                                                        obtain rfl := k56_openM hM55
                                                        have HP55 := (Kd.R_seg HX55 (x16_3 : Int) P0 P1 (seg := [.int .i64 78, .int .i64 0, .int .u64 0, .string (⟨#[]⟩ : ByteArray)]) (j := 0) hcl55 hcc55 (show 4 ≤ 4 from by decide) (x' := (⟨78, 0, 0, (⟨#[]⟩ : ByteArray)⟩ : S56)) (k56_mkM _ _ _ (⟨78, 0, 0, (⟨#[]⟩ : ByteArray)⟩ : S56)) (fun _ hk => hk)).1
                                                        rw [Ny134.out]; exact ⟨HP55⟩
                                                      · have HB_ := pw_below_drewN HB.out nq
                                                        exact ⟨below_set (below_set (below_set (below_set HB_ GB52.out) GB52.out) GB52.out) GB52.out⟩
                                                · rw [if_neg c49] at H
                                                  exact absurd H (by simp)
                                              · rw [if_neg c48] at H
                                                exact absurd H (by simp)
                                            · rw [if_neg c47] at H
                                              exact absurd H (by simp)
                                      · rw [if_neg c44] at H
                                        exact absurd H (by simp)
                                    · rw [if_neg c43] at H
                                      have c43b0 : decide (x16_3 < (l2.length : Int)) = false := decide_eq_false c43
                                      clear c43
                                      replace H := Option.bind_eq_some_iff.mp H
                                      obtain ⟨⟨t135, t136⟩, A560, H⟩ := H
                                      replace H : (if (x14_3.length : Int) = (l2.length : Int) then (some (t135.toList == t102.toList)) else (some false)) = some r := H
                                      have A56 := Aside0.mk A560
                                      clear A560
                                      by_cases c57 : (x14_3.length : Int) = (l2.length : Int)
                                      · rw [if_pos c57] at H
                                        have c57b0 : ((x14_3.length : Int) == (l2.length : Int)) = true := beq_iff_eq.mpr c57
                                        have c57b1 : ((x14_3.length : Int) != (l2.length : Int)) = false := bne_eq_false_iff_eq.mpr c57
                                        have c57b2 : (x14_3.length == l2.length) = true := by first | simpa using c57 | (simp at c57 ⊢; omega)
                                        clear c57
                                        obtain rfl := Option.some.inj H
                                        go_wp2_with (first | (go_at_call 27; (with_reducible refine (xEncode.calls _ _ l0 t135 t136 _ ?side1 ?side2 ?side3 A56.out).mono ?_); (case side1 => repeat (first | exact (Kd.C_below HR0.out HB.out) | (with_reducible refine Kd.C_alloc ?_ _) | (with_reducible refine Kd.C_drewN ?_ _) | (with_reducible refine Kd.C_drew ?_))); (case side2 => exact HC0.out); (case side3 => first | exact HT.out | exact tab_at HT.out (by repeat (first | (with_reducible first | exact HB.out | apply below_alloc | apply pw_below_drewN | apply below_drew1) | exact HB.out)) | (repeat (first | exact HT.out | refine tab_drewN ?_ | refine tab_drew ?_))); rintro e w58 ⟨rfl, hb⟩; have n0_ := Aside0.mk (Kd.R_below (by (with_reducible repeat (first | apply Kd.R_alloc | apply Kd.R_drewN | apply Kd.R_drew)); exact HO_14.out) hb); have n1_ := Aside0.mk (below_step (by repeat (first | (with_reducible first | exact HB.out | apply below_alloc | apply pw_below_drewN | apply below_drew1) | exact HB.out)) hb); clear HO_14; clear HB; have HO_14 := n0_; have HB := n1_; clear n0_ n1_; (try clear hb); (try clear hb2); (try clear hk); (try clear hi); obtain ⟨Ao59, co59, eo59⟩ := Kd.R_slice HO_14.out; subst eo59))
                                        repeat (go_quiet (first | (go_at_call 27; (with_reducible refine (xEncode.calls _ _ l0 t135 t136 _ ?side1 ?side2 ?side3 A56.out).mono ?_); (case side1 => repeat (first | exact (Kd.C_below HR0.out HB.out) | (with_reducible refine Kd.C_alloc ?_ _) | (with_reducible refine Kd.C_drewN ?_ _) | (with_reducible refine Kd.C_drew ?_))); (case side2 => exact HC0.out); (case side3 => first | exact HT.out | exact tab_at HT.out (by repeat (first | (with_reducible first | exact HB.out | apply below_alloc | apply pw_below_drewN | apply below_drew1) | exact HB.out)) | (repeat (first | exact HT.out | refine tab_drewN ?_ | refine tab_drew ?_))); rintro e w58 ⟨rfl, hb⟩; have n0_ := Aside0.mk (Kd.R_below (by (with_reducible repeat (first | apply Kd.R_alloc | apply Kd.R_drewN | apply Kd.R_drew)); exact HO_14.out) hb); have n1_ := Aside0.mk (below_step (by repeat (first | (with_reducible first | exact HB.out | apply below_alloc | apply pw_below_drewN | apply below_drew1) | exact HB.out)) hb); clear HO_14; clear HB; have HO_14 := n0_; have HB := n1_; clear n0_ n1_; (try clear hb); (try clear hb2); (try clear hk); (try clear hi); obtain ⟨Ao59, co59, eo59⟩ := Kd.R_slice HO_14.out; subst eo59)); try go_wp2_with (first | (go_at_call 27; (with_reducible refine (xEncode.calls _ _ l0 t135 t136 _ ?side1 ?side2 ?side3 A56.out).mono ?_); (case side1 => repeat (first | exact (Kd.C_below HR0.out HB.out) | (with_reducible refine Kd.C_alloc ?_ _) | (with_reducible refine Kd.C_drewN ?_ _) | (with_reducible refine Kd.C_drew ?_))); (case side2 => exact HC0.out); (case side3 => first | exact HT.out | exact tab_at HT.out (by repeat (first | (with_reducible first | exact HB.out | apply below_alloc | apply pw_below_drewN | apply below_drew1) | exact HB.out)) | (repeat (first | exact HT.out | refine tab_drewN ?_ | refine tab_drew ?_))); rintro e w58 ⟨rfl, hb⟩; have n0_ := Aside0.mk (Kd.R_below (by (with_reducible repeat (first | apply Kd.R_alloc | apply Kd.R_drewN | apply Kd.R_drew)); exact HO_14.out) hb); have n1_ := Aside0.mk (below_step (by repeat (first | (with_reducible first | exact HB.out | apply below_alloc | apply pw_below_drewN | apply below_drew1) | exact HB.out)) hb); clear HO_14; clear HB; have HO_14 := n0_; have HB := n1_; clear n0_ n1_; (try clear hb); (try clear hb2); (try clear hk); (try clear hi); obtain ⟨Ao59, co59, eo59⟩ := Kd.R_slice HO_14.out; subst eo59)))
                                        go_ret
                                        exact ⟨by first | rfl | (simp [errW_none, errW_some] <;> rfl) | (simp only [← hji16, ← hji22]; first | rfl | (simp [errW_none, errW_some] <;> rfl)) | (simp [*, errW_none, errW_some] <;> rfl), by repeat (first | (with_reducible first | exact HB.out | apply below_alloc | apply pw_below_drewN | apply below_drew1) | exact HB.out)⟩
                                      · rw [if_neg c57] at H
                                        have c57b0 : ((x14_3.length : Int) == (l2.length : Int)) = false := beq_eq_false_iff_ne.mpr c57
                                        have c57b1 : ((x14_3.length : Int) != (l2.length : Int)) = true := bne_iff_ne.mpr c57
                                        have c57b2 : (x14_3.length == l2.length) = false := by first | simpa using c57 | (simp at c57 ⊢; omega)
                                        obtain rfl := Option.some.inj H
                                        go_wp2_with (first | (go_at_call 27; (with_reducible refine (xEncode.calls _ _ l0 t135 t136 _ ?side1 ?side2 ?side3 A56.out).mono ?_); (case side1 => repeat (first | exact (Kd.C_below HR0.out HB.out) | (with_reducible refine Kd.C_alloc ?_ _) | (with_reducible refine Kd.C_drewN ?_ _) | (with_reducible refine Kd.C_drew ?_))); (case side2 => exact HC0.out); (case side3 => first | exact HT.out | exact tab_at HT.out (by repeat (first | (with_reducible first | exact HB.out | apply below_alloc | apply pw_below_drewN | apply below_drew1) | exact HB.out)) | (repeat (first | exact HT.out | refine tab_drewN ?_ | refine tab_drew ?_))); rintro e w60 ⟨rfl, hb⟩; have n0_ := Aside0.mk (Kd.R_below (by (with_reducible repeat (first | apply Kd.R_alloc | apply Kd.R_drewN | apply Kd.R_drew)); exact HO_14.out) hb); have n1_ := Aside0.mk (below_step (by repeat (first | (with_reducible first | exact HB.out | apply below_alloc | apply pw_below_drewN | apply below_drew1) | exact HB.out)) hb); clear HO_14; clear HB; have HO_14 := n0_; have HB := n1_; clear n0_ n1_; (try clear hb); (try clear hb2); (try clear hk); (try clear hi); obtain ⟨Ao61, co61, eo61⟩ := Kd.R_slice HO_14.out; subst eo61))
                                        repeat (go_quiet (first | (go_at_call 27; (with_reducible refine (xEncode.calls _ _ l0 t135 t136 _ ?side1 ?side2 ?side3 A56.out).mono ?_); (case side1 => repeat (first | exact (Kd.C_below HR0.out HB.out) | (with_reducible refine Kd.C_alloc ?_ _) | (with_reducible refine Kd.C_drewN ?_ _) | (with_reducible refine Kd.C_drew ?_))); (case side2 => exact HC0.out); (case side3 => first | exact HT.out | exact tab_at HT.out (by repeat (first | (with_reducible first | exact HB.out | apply below_alloc | apply pw_below_drewN | apply below_drew1) | exact HB.out)) | (repeat (first | exact HT.out | refine tab_drewN ?_ | refine tab_drew ?_))); rintro e w60 ⟨rfl, hb⟩; have n0_ := Aside0.mk (Kd.R_below (by (with_reducible repeat (first | apply Kd.R_alloc | apply Kd.R_drewN | apply Kd.R_drew)); exact HO_14.out) hb); have n1_ := Aside0.mk (below_step (by repeat (first | (with_reducible first | exact HB.out | apply below_alloc | apply pw_below_drewN | apply below_drew1) | exact HB.out)) hb); clear HO_14; clear HB; have HO_14 := n0_; have HB := n1_; clear n0_ n1_; (try clear hb); (try clear hb2); (try clear hk); (try clear hi); obtain ⟨Ao61, co61, eo61⟩ := Kd.R_slice HO_14.out; subst eo61)); try go_wp2_with (first | (go_at_call 27; (with_reducible refine (xEncode.calls _ _ l0 t135 t136 _ ?side1 ?side2 ?side3 A56.out).mono ?_); (case side1 => repeat (first | exact (Kd.C_below HR0.out HB.out) | (with_reducible refine Kd.C_alloc ?_ _) | (with_reducible refine Kd.C_drewN ?_ _) | (with_reducible refine Kd.C_drew ?_))); (case side2 => exact HC0.out); (case side3 => first | exact HT.out | exact tab_at HT.out (by repeat (first | (with_reducible first | exact HB.out | apply below_alloc | apply pw_below_drewN | apply below_drew1) | exact HB.out)) | (repeat (first | exact HT.out | refine tab_drewN ?_ | refine tab_drew ?_))); rintro e w60 ⟨rfl, hb⟩; have n0_ := Aside0.mk (Kd.R_below (by (with_reducible repeat (first | apply Kd.R_alloc | apply Kd.R_drewN | apply Kd.R_drew)); exact HO_14.out) hb); have n1_ := Aside0.mk (below_step (by repeat (first | (with_reducible first | exact HB.out | apply below_alloc | apply pw_below_drewN | apply below_drew1) | exact HB.out)) hb); clear HO_14; clear HB; have HO_14 := n0_; have HB := n1_; clear n0_ n1_; (try clear hb); (try clear hb2); (try clear hk); (try clear hi); obtain ⟨Ao61, co61, eo61⟩ := Kd.R_slice HO_14.out; subst eo61)))
                                        go_ret
                                        exact ⟨by first | rfl | (simp [errW_none, errW_some] <;> rfl) | (simp only [← hji16, ← hji22]; first | rfl | (simp [errW_none, errW_some] <;> rfl)) | (simp [*, errW_none, errW_some] <;> rfl), by repeat (first | (with_reducible first | exact HB.out | apply below_alloc | apply pw_below_drewN | apply below_drew1) | exact HB.out)⟩
                              · rw [if_neg c41] at H
                                have c41b0 : (t126 == 0) = false := beq_eq_false_iff_ne.mpr c41
                                have c41b1 : (t126 != 0) = true := bne_iff_ne.mpr c41
                                obtain rfl := Option.some.inj H
                                go_wp2_with (first | (go_at_call 30; (with_reducible refine (row_Pick.calls kj25 _ _ l0 _ _ l2 t125 t126 _ ?side1 ?side2 ?side3 ?side4 A40.out).mono ?_); (case side1 => repeat (first | exact (Kd.C_below HR0.out HB.out) | (with_reducible refine Kd.C_alloc ?_ _) | (with_reducible refine Kd.C_drewN ?_ _) | (with_reducible refine Kd.C_drew ?_))); (case side2 => exact HC0.out); (case side3 => repeat (first | exact (Kd.C_below HR2.out HB.out) | (with_reducible refine Kd.C_alloc ?_ _) | (with_reducible refine Kd.C_drewN ?_ _) | (with_reducible refine Kd.C_drew ?_))); (case side4 => exact HC2.out); rintro e w62 ⟨v127, rfl, ho0, hb⟩; have n0_ := Aside0.mk (Kd.R_lower ho0 (below_size (by repeat (first | (with_reducible first | exact HB.out | apply below_alloc | apply pw_below_drewN | apply below_drew1) | exact HB.out)))); have n1_ := Aside0.mk (Kd.C_below (by repeat (first | (with_reducible exact HR121.out) | (with_reducible refine Kd.C_alloc ?_ _) | (with_reducible refine Kd.C_drewN ?_ _) | (with_reducible refine Kd.C_drew ?_) | exact HR121.out)) hb); have n2_ := Aside0.mk (below_step (by repeat (first | (with_reducible first | exact HB.out | apply below_alloc | apply pw_below_drewN | apply below_drew1) | exact HB.out)) hb); clear HR121; clear HB; have HO128 := n0_; have HR121 := n1_; have HB := n2_; clear n0_ n1_ n2_; (try clear hb); (try clear hb2); (try clear hk); (try clear hi); (try clear ho0); obtain ⟨Ao63, co63, eo63⟩ := Kd.R_slice HO128.out; subst eo63))
                                repeat (go_quiet (first | (go_at_call 30; (with_reducible refine (row_Pick.calls kj25 _ _ l0 _ _ l2 t125 t126 _ ?side1 ?side2 ?side3 ?side4 A40.out).mono ?_); (case side1 => repeat (first | exact (Kd.C_below HR0.out HB.out) | (with_reducible refine Kd.C_alloc ?_ _) | (with_reducible refine Kd.C_drewN ?_ _) | (with_reducible refine Kd.C_drew ?_))); (case side2 => exact HC0.out); (case side3 => repeat (first | exact (Kd.C_below HR2.out HB.out) | (with_reducible refine Kd.C_alloc ?_ _) | (with_reducible refine Kd.C_drewN ?_ _) | (with_reducible refine Kd.C_drew ?_))); (case side4 => exact HC2.out); rintro e w62 ⟨v127, rfl, ho0, hb⟩; have n0_ := Aside0.mk (Kd.R_lower ho0 (below_size (by repeat (first | (with_reducible first | exact HB.out | apply below_alloc | apply pw_below_drewN | apply below_drew1) | exact HB.out)))); have n1_ := Aside0.mk (Kd.C_below (by repeat (first | (with_reducible exact HR121.out) | (with_reducible refine Kd.C_alloc ?_ _) | (with_reducible refine Kd.C_drewN ?_ _) | (with_reducible refine Kd.C_drew ?_) | exact HR121.out)) hb); have n2_ := Aside0.mk (below_step (by repeat (first | (with_reducible first | exact HB.out | apply below_alloc | apply pw_below_drewN | apply below_drew1) | exact HB.out)) hb); clear HR121; clear HB; have HO128 := n0_; have HR121 := n1_; have HB := n2_; clear n0_ n1_ n2_; (try clear hb); (try clear hb2); (try clear hk); (try clear hi); (try clear ho0); obtain ⟨Ao63, co63, eo63⟩ := Kd.R_slice HO128.out; subst eo63)); try go_wp2_with (first | (go_at_call 30; (with_reducible refine (row_Pick.calls kj25 _ _ l0 _ _ l2 t125 t126 _ ?side1 ?side2 ?side3 ?side4 A40.out).mono ?_); (case side1 => repeat (first | exact (Kd.C_below HR0.out HB.out) | (with_reducible refine Kd.C_alloc ?_ _) | (with_reducible refine Kd.C_drewN ?_ _) | (with_reducible refine Kd.C_drew ?_))); (case side2 => exact HC0.out); (case side3 => repeat (first | exact (Kd.C_below HR2.out HB.out) | (with_reducible refine Kd.C_alloc ?_ _) | (with_reducible refine Kd.C_drewN ?_ _) | (with_reducible refine Kd.C_drew ?_))); (case side4 => exact HC2.out); rintro e w62 ⟨v127, rfl, ho0, hb⟩; have n0_ := Aside0.mk (Kd.R_lower ho0 (below_size (by repeat (first | (with_reducible first | exact HB.out | apply below_alloc | apply pw_below_drewN | apply below_drew1) | exact HB.out)))); have n1_ := Aside0.mk (Kd.C_below (by repeat (first | (with_reducible exact HR121.out) | (with_reducible refine Kd.C_alloc ?_ _) | (with_reducible refine Kd.C_drewN ?_ _) | (with_reducible refine Kd.C_drew ?_) | exact HR121.out)) hb); have n2_ := Aside0.mk (below_step (by repeat (first | (with_reducible first | exact HB.out | apply below_alloc | apply pw_below_drewN | apply below_drew1) | exact HB.out)) hb); clear HR121; clear HB; have HO128 := n0_; have HR121 := n1_; have HB := n2_; clear n0_ n1_ n2_; (try clear hb); (try clear hb2); (try clear hk); (try clear hi); (try clear ho0); obtain ⟨Ao63, co63, eo63⟩ := Kd.R_slice HO128.out; subst eo63)))
                                go_ret
                                exact ⟨by first | rfl | (simp [errW_none, errW_some] <;> rfl) | (simp only [← hji16, ← hji22]; first | rfl | (simp [errW_none, errW_some] <;> rfl)) | (simp [*, errW_none, errW_some] <;> rfl), by repeat (first | (with_reducible first | exact HB.out | apply below_alloc | apply pw_below_drewN | apply below_drew1) | exact HB.out)⟩
                      · rw [if_neg c24] at H
                        exact absurd H (by simp)
                    · rw [if_neg c23] at H
                      exact absurd H (by simp)
                  · rw [if_neg c21] at H
                    exact absurd H (by simp)
                · rw [if_neg c20] at H
                  exact absurd H (by simp)
              · rw [if_neg c19] at H
                exact absurd H (by simp)
            · rw [if_neg c18] at H
              exact absurd H (by simp)
          · rw [if_neg c17] at H
            exact absurd H (by simp)
  · replace c5 := Bool.eq_false_iff.mpr c5
    subst c5
    have H1 : (some false) = some r := by rw [if_neg (show ¬ (false = true) by decide)] at H; exact H
    clear H
    have H := H1
    clear H1
    obtain rfl := Option.some.inj H
    go_enter Tryd.func9, Tryd.ntmps9
    go_wp2_with (first | (go_at_call 23; (with_reducible refine (xAwake2.calls  false _ ?side1 A4.out).mono ?_); (case side1 => first | exact HT.out | exact tab_at HT.out (by repeat (first | (with_reducible first | exact HB.out | apply below_alloc | apply pw_below_drewN | apply below_drew1) | exact HB.out)) | (repeat (first | exact HT.out | refine tab_drewN ?_ | refine tab_drew ?_))); rintro e w64 ⟨rfl, hb⟩; have n0_ := Aside0.mk (below_step (by repeat (first | (with_reducible first | exact HB.out | apply below_alloc | apply pw_below_drewN | apply below_drew1) | exact HB.out)) hb); clear HB; have HB := n0_; clear n0_; (try clear hb); (try clear hb2); (try clear hk); (try clear hi)))
    repeat (go_quiet (first | (go_at_call 23; (with_reducible refine (xAwake2.calls  false _ ?side1 A4.out).mono ?_); (case side1 => first | exact HT.out | exact tab_at HT.out (by repeat (first | (with_reducible first | exact HB.out | apply below_alloc | apply pw_below_drewN | apply below_drew1) | exact HB.out)) | (repeat (first | exact HT.out | refine tab_drewN ?_ | refine tab_drew ?_))); rintro e w64 ⟨rfl, hb⟩; have n0_ := Aside0.mk (below_step (by repeat (first | (with_reducible first | exact HB.out | apply below_alloc | apply pw_below_drewN | apply below_drew1) | exact HB.out)) hb); clear HB; have HB := n0_; clear n0_; (try clear hb); (try clear hb2); (try clear hk); (try clear hi))); try go_wp2_with (first | (go_at_call 23; (with_reducible refine (xAwake2.calls  false _ ?side1 A4.out).mono ?_); (case side1 => first | exact HT.out | exact tab_at HT.out (by repeat (first | (with_reducible first | exact HB.out | apply below_alloc | apply pw_below_drewN | apply below_drew1) | exact HB.out)) | (repeat (first | exact HT.out | refine tab_drewN ?_ | refine tab_drew ?_))); rintro e w64 ⟨rfl, hb⟩; have n0_ := Aside0.mk (below_step (by repeat (first | (with_reducible first | exact HB.out | apply below_alloc | apply pw_below_drewN | apply below_drew1) | exact HB.out)) hb); clear HB; have HB := n0_; clear n0_; (try clear hb); (try clear hb2); (try clear hk); (try clear hi))))
    go_ret
    exact ⟨by first | rfl | (simp [errW_none, errW_some] <;> rfl) | (simp [*, errW_none, errW_some] <;> rfl), by repeat (first | (with_reducible first | exact HB.out | apply below_alloc | apply pw_below_drewN | apply below_drew1) | exact HB.out)⟩

end Go.Proofs.YthpkjkcfhipjhaaDoor.PRJ
