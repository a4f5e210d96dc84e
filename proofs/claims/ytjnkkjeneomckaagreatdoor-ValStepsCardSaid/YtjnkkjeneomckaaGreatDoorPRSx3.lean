/- Walks of functions of this translation, written by a program (wip/tools/xprint.py, out of the kit's print). -/
import Derived.Test.YtjnkkjeneomckaaGreatDoorPRSx0
import Derived.Test.YtjnkkjeneomckaaGreatDoorPRSx1
import Derived.Test.YtjnkkjeneomckaaGreatDoorPRSx2
namespace Go.Proofs.YtjnkkjeneomckaaGreatDoor.PRS
open Go.RowKit Go.Proofs.YtjnkkjeneomckaaGreatDoorW.PrintWords Go.Proofs.YtjnkkjeneomckaaGreatDoorW.PrintLast
set_option linter.unusedVariables false
set_option linter.unusedSimpArgs false

attribute [local go_sem high] eqA25
/-! ### freshetref01_logic: function 26 -/
mutual
def freshetref01_logic.j0 : Nat → Int → Bool → Int → Int → Int → ByteArray → Int → Int → Int → ByteArray → Option (Int × Int × Int × ByteArray × Int)
 | 0, _, _, _, _, _, _, _, _, _, _ => none
 | k + 1, x0, x16, x131000, x131001, x131002, x131003, x132000, x132001, x132002, x132003 => if x16 = true then (some (0, 0, 0, (⟨#[]⟩ : ByteArray), 1)) else ((freshetref01_OfBool.f (x0 == 23)).bind fun bt133 => (if (x131000 == bt133.1 && (x131001 == bt133.2.1 && (x131002 == bt133.2.2.1 && (x131003.toList == bt133.2.2.2.toList)))) = true then (freshetref01_logic.j1 k x0 true x131000 x131001 x131002 x131003 x132000 x132001 x132002 x132003 bt133.1 bt133.2.1 bt133.2.2.1 bt133.2.2.2) else (freshetref01_logic.j1 k x0 (x132000 == bt133.1 && (x132001 == bt133.2.1 && (x132002 == bt133.2.2.1 && (x132003.toList == bt133.2.2.2.toList)))) x131000 x131001 x131002 x131003 x132000 x132001 x132002 x132003 bt133.1 bt133.2.1 bt133.2.2.1 bt133.2.2.2)))
def freshetref01_logic.j1 : Nat → Int → Bool → Int → Int → Int → ByteArray → Int → Int → Int → ByteArray → Int → Int → Int → ByteArray → Option (Int × Int × Int × ByteArray × Int)
 | 0, _, _, _, _, _, _, _, _, _, _, _, _, _, _ => none
 | k + 1, x0, x28, x131000, x131001, x131002, x131003, x132000, x132001, x132002, x132003, x138000, x138001, x138002, x138003 => if x28 = true then (some (x138000, x138001, x138002, x138003, 0)) else (if x131000 = 0 then (some (0, 0, 0, (⟨#[]⟩ : ByteArray), 0)) else (if x132000 = 0 then (some (0, 0, 0, (⟨#[]⟩ : ByteArray), 0)) else ((freshetref01_OfBool.f (x0 == 22)).bind fun bt138 => (some (bt138.1, bt138.2.1, bt138.2.2.1, bt138.2.2.2, 0)))))
end
def freshetref01_logic.f (k : Nat) (a0 : Int) (a1_0 : Int) (a1_1 : Int) (a1_2 : Int) (a1_3 : ByteArray) (a2_0 : Int) (a2_1 : Int) (a2_2 : Int) (a2_3 : ByteArray) : Option (Int × Int × Int × ByteArray × Int) := if a1_0 > 1 then (freshetref01_logic.j0 k a0 true a1_0 a1_1 a1_2 a1_3 a2_0 a2_1 a2_2 a2_3) else (freshetref01_logic.j0 k a0 (decide (a2_0 > 1)) a1_0 a1_1 a1_2 a1_3 a2_0 a2_1 a2_2 a2_3)
theorem freshetref01_logic.mono_l : ∀ k, (∀ y0 y1 y2 y3 y4 y5 y6 y7 y8 y9, LeO (freshetref01_logic.j0 k y0 y1 y2 y3 y4 y5 y6 y7 y8 y9) (freshetref01_logic.j0 (k + 1) y0 y1 y2 y3 y4 y5 y6 y7 y8 y9)) ∧ (∀ y0 y1 y2 y3 y4 y5 y6 y7 y8 y9 y10 y11 y12 y13, LeO (freshetref01_logic.j1 k y0 y1 y2 y3 y4 y5 y6 y7 y8 y9 y10 y11 y12 y13) (freshetref01_logic.j1 (k + 1) y0 y1 y2 y3 y4 y5 y6 y7 y8 y9 y10 y11 y12 y13))
 | 0 => ⟨fun _ _ _ _ _ _ _ _ _ _ r h => by simp [freshetref01_logic.j0] at h, fun _ _ _ _ _ _ _ _ _ _ _ _ _ _ r h => by simp [freshetref01_logic.j1] at h⟩
 | k + 1 => by
  obtain ⟨ih0, ih1⟩ := freshetref01_logic.mono_l k
  refine ⟨?_, ?_⟩
  ·intro y0 y1 y2 y3 y4 y5 y6 y7 y8 y9
   unfold freshetref01_logic.j0
   repeat' first
   | (with_reducible exact ih0 _ _ _ _ _ _ _ _ _ _)
   | (with_reducible exact ih1 _ _ _ _ _ _ _ _ _ _ _ _ _ _)
   | (with_reducible exact LeO.refl _)
   | (with_reducible exact LeO.none _)
   | (with_reducible refine LeO.ite ?_ ?_)
   | (with_reducible refine LeO.bind ?_ (fun _ => ?_))
   | exact ih0 _ _ _ _ _ _ _ _ _ _
   | exact ih1 _ _ _ _ _ _ _ _ _ _ _ _ _ _
   | exact LeO.none _
   | refine LeO.ite ?_ ?_
   | refine LeO.bind ?_ (fun _ => ?_)
  ·intro y0 y1 y2 y3 y4 y5 y6 y7 y8 y9 y10 y11 y12 y13
   unfold freshetref01_logic.j1
   repeat' first
   | (with_reducible exact ih0 _ _ _ _ _ _ _ _ _ _)
   | (with_reducible exact ih1 _ _ _ _ _ _ _ _ _ _ _ _ _ _)
   | (with_reducible exact LeO.refl _)
   | (with_reducible exact LeO.none _)
   | (with_reducible refine LeO.ite ?_ ?_)
   | (with_reducible refine LeO.bind ?_ (fun _ => ?_))
   | exact ih0 _ _ _ _ _ _ _ _ _ _
   | exact ih1 _ _ _ _ _ _ _ _ _ _ _ _ _ _
   | exact LeO.none _
   | refine LeO.ite ?_ ?_
   | refine LeO.bind ?_ (fun _ => ?_)
theorem freshetref01_logic.mono : ∀ a0 a1 a2 a3 a4 a5 a6 a7 a8 k, LeO (freshetref01_logic.f k a0 a1 a2 a3 a4 a5 a6 a7 a8) (freshetref01_logic.f (k + 1) a0 a1 a2 a3 a4 a5 a6 a7 a8) := by
 intro a0 a1 a2 a3 a4 a5 a6 a7 a8 k
 obtain ⟨ih0, ih1⟩ := freshetref01_logic.mono_l k
 unfold freshetref01_logic.f
 repeat' first
   | (with_reducible exact ih0 _ _ _ _ _ _ _ _ _ _)
   | (with_reducible exact ih1 _ _ _ _ _ _ _ _ _ _ _ _ _ _)
   | (with_reducible exact LeO.refl _)
   | (with_reducible exact LeO.none _)
   | (with_reducible refine LeO.ite ?_ ?_)
   | (with_reducible refine LeO.bind ?_ (fun _ => ?_))
   | exact ih0 _ _ _ _ _ _ _ _ _ _
   | exact ih1 _ _ _ _ _ _ _ _ _ _ _ _ _ _
   | exact LeO.none _
   | refine LeO.ite ?_ ?_
   | refine LeO.bind ?_ (fun _ => ?_)
set_option maxHeartbeats 8000000 in
set_option maxRecDepth 100000 in
theorem freshetref01_logic.calls (k : Nat) (a0 : Int) (a1_0 : Int) (a1_1 : Int) (a1_2 : Int) (a1_3 : ByteArray) (a2_0 : Int) (a2_1 : Int) (a2_2 : Int) (a2_3 : ByteArray) (r1 : Int) (r2 : Int) (r3 : Int) (r4 : ByteArray) (r5 : Int) (w : World) (h : freshetref01_logic.f k a0 a1_0 a1_1 a1_2 a1_3 a2_0 a2_1 a2_2 a2_3 = some (r1, r2, r3, r4, r5)) :
  Calls Tryz.prog 26 #[.int .i64 a0, .agg #[.int .i64 a1_0, .int .i64 a1_1, .int .u64 a1_2, .string a1_3], .agg #[.int .i64 a2_0, .int .i64 a2_1, .int .u64 a2_2, .string a2_3]] w fun e w' => e = .returned (.tuple #[.agg #[.int .i64 r1, .int .i64 r2, .int .u64 r3, .string r4], .int .i64 r5]) ∧ Below w.heap.size w w' := by
 have hu25 := Tryz.underlying25
 have HB := Aside0.mk (Below.refl w.heap.size w)
 have H : (if a1_0 > 1 then (freshetref01_logic.j0 k a0 true a1_0 a1_1 a1_2 a1_3 a2_0 a2_1 a2_2 a2_3) else (freshetref01_logic.j0 k a0 (decide (a2_0 > 1)) a1_0 a1_1 a1_2 a1_3 a2_0 a2_1 a2_2 a2_3)) = some (r1, r2, r3, r4, r5) := h
 clear h
 have HC4 := Aside0.mk H
 clear H
 go_enter Tryz.func26, Tryz.ntmps26
 go_upto_region 1 with (first | ((with_reducible refine gate_dst (N := 4) rfl ?_); refine box_event ?hg (N := 4) ?hd (cs := #[.int .i64 a1_0, .int .i64 a1_1, .int .u64 a1_2, .string a1_3]) (t := 25) ?hr ?_; (case hd => rfl); (case hg => rfl); (case hr => first | (go_simp; done) | (go_simp; rfl)); intro gb130 hg w5 hbox hb; have n0_ := Aside0.mk (below_step (by repeat (first | (with_reducible first | exact HB.out | apply below_alloc | apply pw_below_drewN | apply below_drew1) | exact HB.out)) hb); have n1_ := Aside0.mk (hbox); have n2_ := Aside0.mk ((by rw [hg]; exact (below_size (by repeat (first | (with_reducible first | exact HB.out | apply below_alloc | apply pw_below_drewN | apply below_drew1) | exact HB.out))) : w.heap.size ≤ gb130)); have n3_ := n2_; clear HB; have HB := n0_; have BK130 := n1_; have GW130 := n2_; have GE130 := n3_; clear n0_ n1_ n2_ n3_; clear hb hbox hg) | ((with_reducible refine gate_dst (N := 5) rfl ?_); refine box_event ?hg (N := 5) ?hd (cs := #[.int .i64 a2_0, .int .i64 a2_1, .int .u64 a2_2, .string a2_3]) (t := 25) ?hr ?_; (case hd => rfl); (case hg => rfl); (case hr => first | (go_simp; done) | (go_simp; rfl)); intro gb131 hg w6 hbox hb; have n0_ := Aside0.mk (blk_below (g := gb130) (o := .cells #[.int .i64 a1_0, .int .i64 a1_1, .int .u64 a1_2, .string a1_3] 25 (0, 0)) (by (with_reducible repeat (first | refine blk_drewN ?_ _ | refine blk_drew ?_ | refine blk_alloc ?_ _)); exact BK130.out) hb); have n1_ := Aside0.mk (below_step (by repeat (first | (with_reducible first | exact HB.out | apply below_alloc | apply pw_below_drewN | apply below_drew1 | refine below_set ?_ GE130.out) | exact HB.out)) hb); have n2_ := Aside0.mk (hbox); have n3_ := Aside0.mk ((by rw [hg]; exact (below_size (by repeat (first | (with_reducible first | exact HB.out | apply below_alloc | apply pw_below_drewN | apply below_drew1 | refine below_set ?_ GE130.out) | exact HB.out))) : w.heap.size ≤ gb131)); have n4_ := Aside0.mk ((by rw [hg]; exact (below_size (by repeat (first | (with_reducible first | exact HB.out | apply below_alloc | apply pw_below_drewN | apply below_drew1 | refine below_set ?_ GE130.out) | exact HB.out))) : w.heap.size ≤ gb131)); have n5_ := Aside0.mk ((by rw [hg]; exact Nat.ne_of_lt (blk_lt (g := gb130) (o := .cells #[.int .i64 a1_0, .int .i64 a1_1, .int .u64 a1_2, .string a1_3] 25 (0, 0)) (by (with_reducible repeat (first | refine blk_drewN ?_ _ | refine blk_drew ?_ | refine blk_alloc ?_ _)); exact BK130.out)) : gb130 ≠ gb131)); have n6_ := Aside0.mk ((by rw [hg]; exact Nat.ne_of_gt (blk_lt (g := gb130) (o := .cells #[.int .i64 a1_0, .int .i64 a1_1, .int .u64 a1_2, .string a1_3] 25 (0, 0)) (by (with_reducible repeat (first | refine blk_drewN ?_ _ | refine blk_drew ?_ | refine blk_alloc ?_ _)); exact BK130.out)) : gb131 ≠ gb130)); clear BK130; clear HB; have BK130 := n0_; have HB := n1_; have BK131 := n2_; have GW131 := n3_; have GE131 := n4_; have NB130_131 := n5_; have NB131_130 := n6_; clear n0_ n1_ n2_ n3_ n4_ n5_ n6_; clear hb hbox hg) | ((with_reducible refine gate_dst (N := 6) rfl ?_); refine box_event ?hg (N := 6) ?hd (cs := #[.int .i64 0, .int .i64 0, .int .u64 0, .string (⟨#[]⟩ : ByteArray)]) (t := 25) ?hr ?_; (case hd => rfl); (case hg => rfl); (case hr => first | (go_simp; done) | (go_simp; rfl)); intro gb132 hg w7 hbox hb; have n0_ := Aside0.mk (blk_below (g := gb130) (o := .cells #[.int .i64 a1_0, .int .i64 a1_1, .int .u64 a1_2, .string a1_3] 25 (0, 0)) (by (with_reducible repeat (first | refine blk_drewN ?_ _ | refine blk_drew ?_ | refine blk_alloc ?_ _)); exact BK130.out) hb); have n1_ := Aside0.mk (blk_below (g := gb131) (o := .cells #[.int .i64 a2_0, .int .i64 a2_1, .int .u64 a2_2, .string a2_3] 25 (0, 0)) (by (with_reducible repeat (first | refine blk_drewN ?_ _ | refine blk_drew ?_ | refine blk_alloc ?_ _)); exact BK131.out) hb); have n2_ := Aside0.mk (below_step (by repeat (first | (with_reducible first | exact HB.out | apply below_alloc | apply pw_below_drewN | apply below_drew1 | refine below_set ?_ GE130.out | refine below_set ?_ GE131.out) | exact HB.out)) hb); have n3_ := Aside0.mk (hbox); have n4_ := Aside0.mk ((by rw [hg]; exact (below_size (by repeat (first | (with_reducible first | exact HB.out | apply below_alloc | apply pw_below_drewN | apply below_drew1 | refine below_set ?_ GE130.out | refine below_set ?_ GE131.out) | exact HB.out))) : w.heap.size ≤ gb132)); have n5_ := Aside0.mk ((by rw [hg]; exact (below_size (by repeat (first | (with_reducible first | exact HB.out | apply below_alloc | apply pw_below_drewN | apply below_drew1 | refine below_set ?_ GE130.out | refine below_set ?_ GE131.out) | exact HB.out))) : w.heap.size ≤ gb132)); have n6_ := Aside0.mk ((by rw [hg]; exact Nat.ne_of_lt (blk_lt (g := gb130) (o := .cells #[.int .i64 a1_0, .int .i64 a1_1, .int .u64 a1_2, .string a1_3] 25 (0, 0)) (by (with_reducible repeat (first | refine blk_drewN ?_ _ | refine blk_drew ?_ | refine blk_alloc ?_ _)); exact BK130.out)) : gb130 ≠ gb132)); have n7_ := Aside0.mk ((by rw [hg]; exact Nat.ne_of_gt (blk_lt (g := gb130) (o := .cells #[.int .i64 a1_0, .int .i64 a1_1, .int .u64 a1_2, .string a1_3] 25 (0, 0)) (by (with_reducible repeat (first | refine blk_drewN ?_ _ | refine blk_drew ?_ | refine blk_alloc ?_ _)); exact BK130.out)) : gb132 ≠ gb130)); have n8_ := Aside0.mk ((by rw [hg]; exact Nat.ne_of_lt (blk_lt (g := gb131) (o := .cells #[.int .i64 a2_0, .int .i64 a2_1, .int .u64 a2_2, .string a2_3] 25 (0, 0)) (by (with_reducible repeat (first | refine blk_drewN ?_ _ | refine blk_drew ?_ | refine blk_alloc ?_ _)); exact BK131.out)) : gb131 ≠ gb132)); have n9_ := Aside0.mk ((by rw [hg]; exact Nat.ne_of_gt (blk_lt (g := gb131) (o := .cells #[.int .i64 a2_0, .int .i64 a2_1, .int .u64 a2_2, .string a2_3] 25 (0, 0)) (by (with_reducible repeat (first | refine blk_drewN ?_ _ | refine blk_drew ?_ | refine blk_alloc ?_ _)); exact BK131.out)) : gb132 ≠ gb131)); clear BK130; clear BK131; clear HB; have BK130 := n0_; have BK131 := n1_; have HB := n2_; have BK132 := n3_; have GW132 := n4_; have GE132 := n5_; have NB130_132 := n6_; have NB132_130 := n7_; have NB131_132 := n8_; have NB132_131 := n9_; clear n0_ n1_ n2_ n3_ n4_ n5_ n6_ n7_ n8_ n9_; clear hb hbox hg))
 (try simp only [Act.put, List.setIfInBounds_toArray, List.set_cons_zero, List.set_cons_succ])
 go_cut [16] (fun v16 wc => ∃ (kq : Nat) (x16_3 : Bool), v16 = .bool x16_3 ∧ Aside0 (freshetref01_logic.j0 kq a0 x16_3 a1_0 a1_1 a1_2 a1_3 a2_0 a2_1 a2_2 a2_3 = some (r1, r2, r3, r4, r5)) ∧ Aside0 (kq ≤ k) ∧ Aside0 (wc.heap[gb130]? = some (.cells #[.int .i64 a1_0, .int .i64 a1_1, .int .u64 a1_2, .string a1_3] 25 (0, 0))) ∧ Aside0 (wc.heap[gb131]? = some (.cells #[.int .i64 a2_0, .int .i64 a2_1, .int .u64 a2_2, .string a2_3] 25 (0, 0))) ∧ Aside0 (wc.heap[gb132]? = some (.cells #[.int .i64 0, .int .i64 0, .int .u64 0, .string (⟨#[]⟩ : ByteArray)] 25 (0, 0))) ∧ Aside0 (Below w.heap.size w wc))
 case first =>
  have H := HC4.out
  clear HC4
  by_cases c8 : a1_0 > 1
  ·rw [if_pos c8] at H
   have c8b0 : decide (1 < a1_0) = true := decide_eq_true c8
   clear c8
   (first | rw [c8b0] | (simp only [i64_w, i32_w]; rw [c8b0]) | skip)
   have H' := Aside0.mk H
   clear H
   have hnb9 := NB130_131.out
   have hnc9 := NB131_130.out
   have hnb10 := NB130_132.out
   have hnc10 := NB132_130.out
   have hcz11_0 : w7.cell? ⟨gb130, 0, none⟩ = some (.int .i64 a1_0) := (blk_cell BK130.out 0).trans rfl
   have hcz11_1 : w7.cell? ⟨gb130, 1, none⟩ = some (.int .i64 a1_1) := (blk_cell BK130.out 1).trans rfl
   have hcz11_2 : w7.cell? ⟨gb130, 2, none⟩ = some (.int .u64 a1_2) := (blk_cell BK130.out 2).trans rfl
   have hcz11_3 : w7.cell? ⟨gb130, 3, none⟩ = some (.string a1_3) := (blk_cell BK130.out 3).trans rfl
   have hfz11_0 := blk_frozen BK130.out 0
   have hfz11_1 := blk_frozen BK130.out 1
   have hfz11_2 := blk_frozen BK130.out 2
   have hfz11_3 := blk_frozen BK130.out 3
   go_wp2
   go_meet
   case rel => exact ⟨_, (true), (by first | rfl | (simp; done) | (simp [*]; done)), H', ⟨by first | omega | exact Nat.le_refl _⟩, ⟨by (with_reducible repeat (first | refine blk_drewN ?_ _ | refine blk_drew ?_ | refine blk_alloc ?_ _)); exact BK130.out⟩, ⟨by (with_reducible repeat (first | refine blk_drewN ?_ _ | refine blk_drew ?_ | refine blk_alloc ?_ _)); exact BK131.out⟩, ⟨by (with_reducible repeat (first | refine blk_drewN ?_ _ | refine blk_drew ?_ | refine blk_alloc ?_ _)); exact BK132.out⟩, ⟨by repeat (first | (with_reducible first | exact HB.out | apply below_alloc | apply pw_below_drewN | apply below_drew1 | refine below_set ?_ GE130.out | refine below_set ?_ GE131.out | refine below_set ?_ GE132.out) | exact HB.out)⟩⟩
  ·rw [if_neg c8] at H
   have c8b0 : decide (1 < a1_0) = false := decide_eq_false c8
   clear c8
   (first | rw [c8b0] | (simp only [i64_w, i32_w]; rw [c8b0]) | skip)
   have H' := Aside0.mk H
   clear H
   have hnb12 := NB130_131.out
   have hnc12 := NB131_130.out
   have hnb13 := NB130_132.out
   have hnc13 := NB132_130.out
   have hcz14_0 : w7.cell? ⟨gb130, 0, none⟩ = some (.int .i64 a1_0) := (blk_cell BK130.out 0).trans rfl
   have hcz14_1 : w7.cell? ⟨gb130, 1, none⟩ = some (.int .i64 a1_1) := (blk_cell BK130.out 1).trans rfl
   have hcz14_2 : w7.cell? ⟨gb130, 2, none⟩ = some (.int .u64 a1_2) := (blk_cell BK130.out 2).trans rfl
   have hcz14_3 : w7.cell? ⟨gb130, 3, none⟩ = some (.string a1_3) := (blk_cell BK130.out 3).trans rfl
   have hfz14_0 := blk_frozen BK130.out 0
   have hfz14_1 := blk_frozen BK130.out 1
   have hfz14_2 := blk_frozen BK130.out 2
   have hfz14_3 := blk_frozen BK130.out 3
   have hnb15 := NB131_132.out
   have hnc15 := NB132_131.out
   have hcz16_0 : w7.cell? ⟨gb131, 0, none⟩ = some (.int .i64 a2_0) := (blk_cell BK131.out 0).trans rfl
   have hcz16_1 : w7.cell? ⟨gb131, 1, none⟩ = some (.int .i64 a2_1) := (blk_cell BK131.out 1).trans rfl
   have hcz16_2 : w7.cell? ⟨gb131, 2, none⟩ = some (.int .u64 a2_2) := (blk_cell BK131.out 2).trans rfl
   have hcz16_3 : w7.cell? ⟨gb131, 3, none⟩ = some (.string a2_3) := (blk_cell BK131.out 3).trans rfl
   have hfz16_0 := blk_frozen BK131.out 0
   have hfz16_1 := blk_frozen BK131.out 1
   have hfz16_2 := blk_frozen BK131.out 2
   have hfz16_3 := blk_frozen BK131.out 3
   go_wp2
   go_meet
   case rel => exact ⟨_, (decide (a2_0 > 1)), (by first | rfl | (simp; done) | (simp [*]; done)), H', ⟨by first | omega | exact Nat.le_refl _⟩, ⟨by (with_reducible repeat (first | refine blk_drewN ?_ _ | refine blk_drew ?_ | refine blk_alloc ?_ _)); exact BK130.out⟩, ⟨by (with_reducible repeat (first | refine blk_drewN ?_ _ | refine blk_drew ?_ | refine blk_alloc ?_ _)); exact BK131.out⟩, ⟨by (with_reducible repeat (first | refine blk_drewN ?_ _ | refine blk_drew ?_ | refine blk_alloc ?_ _)); exact BK132.out⟩, ⟨by repeat (first | (with_reducible first | exact HB.out | apply below_alloc | apply pw_below_drewN | apply below_drew1 | refine below_set ?_ GE130.out | refine below_set ?_ GE131.out | refine below_set ?_ GE132.out) | exact HB.out)⟩⟩
 case rest =>
  clear HC4
  try clear c1
  try clear c2
  try clear p2
  try clear c8
  try clear c8b0
  try clear c9
  try clear c10
  try clear c12
  try clear c13
  try clear c15
  try clear hcz11_0
  try clear hcz11_1
  try clear hcz11_2
  try clear hcz11_3
  try clear hcz14_0
  try clear hcz14_1
  try clear hcz14_2
  try clear hcz14_3
  try clear hcz16_0
  try clear hcz16_1
  try clear hcz16_2
  try clear hcz16_3
  try clear hfz11_0
  try clear hfz11_1
  try clear hfz11_2
  try clear hfz11_3
  try clear hfz14_0
  try clear hfz14_1
  try clear hfz14_2
  try clear hfz14_3
  try clear hfz16_0
  try clear hfz16_1
  try clear hfz16_2
  try clear hfz16_3
  obtain ⟨kq, x16_3, rfl, HA, HJ3, BK130, BK131, BK132, HB⟩ := hcut
  cases kq with
  | zero => exact absurd HA.out (by simp [freshetref01_logic.j0])
  | succ kj3 =>
   have H := HA.out
   clear HA
   simp only [freshetref01_logic.j0] at H
   by_cases c17 : x16_3 = true
   ·subst c17
    have H1 : (some (0, 0, 0, (⟨#[]⟩ : ByteArray), 1)) = some (r1, r2, r3, r4, r5) := by rw [if_pos rfl] at H; exact H
    clear H
    have H := H1
    clear H1
    simp only [Option.some.injEq, Prod.mk.injEq] at H
    obtain ⟨rfl, rfl, rfl, rfl, rfl⟩ := H
    have hnb18 := NB132_130.out
    have hnc18 := NB130_132.out
    have hnb19 := NB132_131.out
    have hnc19 := NB131_132.out
    have hcz20_0 : wc.cell? ⟨gb132, 0, none⟩ = some (.int .i64 0) := (blk_cell BK132.out 0).trans rfl
    have hcz20_1 : wc.cell? ⟨gb132, 1, none⟩ = some (.int .i64 0) := (blk_cell BK132.out 1).trans rfl
    have hcz20_2 : wc.cell? ⟨gb132, 2, none⟩ = some (.int .u64 0) := (blk_cell BK132.out 2).trans rfl
    have hcz20_3 : wc.cell? ⟨gb132, 3, none⟩ = some (.string (⟨#[]⟩ : ByteArray)) := (blk_cell BK132.out 3).trans rfl
    have hfz20_0 := blk_frozen BK132.out 0
    have hfz20_1 := blk_frozen BK132.out 1
    have hfz20_2 := blk_frozen BK132.out 2
    have hfz20_3 := blk_frozen BK132.out 3
    go_wp2
    refine bodyPost_ret (results_ct rfl _ _ gb132 25 #[.int .i64 0, .int .i64 0, .int .u64 0, .string (⟨#[]⟩ : ByteArray)] (0, 0) _ rfl (by (with_reducible repeat (first | refine blk_drewN ?_ _ | refine blk_drew ?_ | refine blk_alloc ?_ _)); refine blk_put (cs := #[.int .i64 0, .int .i64 0, .int .u64 0, .string (⟨#[]⟩ : ByteArray)]) ?_ 3 _ rfl; refine blk_put (cs := #[.int .i64 0, .int .i64 0, .int .u64 0, .string (⟨#[]⟩ : ByteArray)]) ?_ 2 _ rfl; refine blk_put (cs := #[.int .i64 0, .int .i64 0, .int .u64 0, .string (⟨#[]⟩ : ByteArray)]) ?_ 1 _ rfl; refine blk_put (cs := #[.int .i64 0, .int .i64 0, .int .u64 0, .string (⟨#[]⟩ : ByteArray)]) ?_ 0 _ rfl; (with_reducible repeat (first | refine blk_drewN ?_ _ | refine blk_drew ?_ | refine blk_alloc ?_ _)); exact BK132.out) Tryz.underlying25 rfl (by kernel_rfl)) rfl ?_
    exact ⟨by first | rfl | (simp [errW_none, errW_some] <;> rfl) | (simp [*, errW_none, errW_some] <;> rfl), by repeat (first | (with_reducible first | exact HB.out | apply below_alloc | apply pw_below_drewN | apply below_drew1 | refine below_set ?_ GE130.out | refine below_set ?_ GE131.out | refine below_set ?_ GE132.out) | exact HB.out)⟩
   ·replace c17 := Bool.eq_false_iff.mpr c17
    subst c17
    have H1 : ((freshetref01_OfBool.f (a0 == 23)).bind fun bt133 => (if (a1_0 == bt133.1 && (a1_1 == bt133.2.1 && (a1_2 == bt133.2.2.1 && (a1_3.toList == bt133.2.2.2.toList)))) = true then (freshetref01_logic.j1 kj3 a0 true a1_0 a1_1 a1_2 a1_3 a2_0 a2_1 a2_2 a2_3 bt133.1 bt133.2.1 bt133.2.2.1 bt133.2.2.2) else (freshetref01_logic.j1 kj3 a0 (a2_0 == bt133.1 && (a2_1 == bt133.2.1 && (a2_2 == bt133.2.2.1 && (a2_3.toList == bt133.2.2.2.toList)))) a1_0 a1_1 a1_2 a1_3 a2_0 a2_1 a2_2 a2_3 bt133.1 bt133.2.1 bt133.2.2.1 bt133.2.2.2))) = some (r1, r2, r3, r4, r5) := by rw [if_neg (show ¬ (false = true) by decide)] at H; exact H
    clear H
    have H := H1
    clear H1
    replace H := Option.bind_eq_some_iff.mp H
    obtain ⟨⟨t133, t134, t135, t136⟩, A210, H⟩ := H
    replace H : (if (a1_0 == t133 && (a1_1 == t134 && (a1_2 == t135 && (a1_3.toList == t136.toList)))) = true then (freshetref01_logic.j1 kj3 a0 true a1_0 a1_1 a1_2 a1_3 a2_0 a2_1 a2_2 a2_3 t133 t134 t135 t136) else (freshetref01_logic.j1 kj3 a0 (a2_0 == t133 && (a2_1 == t134 && (a2_2 == t135 && (a2_3.toList == t136.toList)))) a1_0 a1_1 a1_2 a1_3 a2_0 a2_1 a2_2 a2_3 t133 t134 t135 t136)) = some (r1, r2, r3, r4, r5) := H
    have A21 := Aside0.mk A210
    clear A210
    have HC22 := Aside0.mk H
    clear H
    go_upto_region 4 with (first | ((with_reducible refine gate_callee (f := 20) rfl ?_); refine goesL_ (some 20) rfl rfl Tryz.func20 (by kernel_rfl) rfl #[.bool (a0 == 23)] rfl (by (try simp only [List.map_toArray, List.map_cons, List.map_nil]); first | done | rfl | (simp only [List.length_drop, List.length_take]; rfl)) ?_; (with_reducible refine (freshetref01_OfBool.calls (a0 == 23) t133 t134 t135 t136 _ A21.out).mono ?_); rintro e w23 ⟨rfl, hb⟩; refine ⟨_, rfl, ?_⟩; have n0_ := Aside0.mk (blk_below (g := gb130) (o := .cells #[.int .i64 a1_0, .int .i64 a1_1, .int .u64 a1_2, .string a1_3] 25 (0, 0)) (by (with_reducible repeat (first | refine blk_drewN ?_ _ | refine blk_drew ?_ | refine blk_alloc ?_ _)); exact BK130.out) hb); have n1_ := Aside0.mk (blk_below (g := gb131) (o := .cells #[.int .i64 a2_0, .int .i64 a2_1, .int .u64 a2_2, .string a2_3] 25 (0, 0)) (by (with_reducible repeat (first | refine blk_drewN ?_ _ | refine blk_drew ?_ | refine blk_alloc ?_ _)); exact BK131.out) hb); have n2_ := Aside0.mk (blk_below (g := gb132) (o := .cells #[.int .i64 0, .int .i64 0, .int .u64 0, .string (⟨#[]⟩ : ByteArray)] 25 (0, 0)) (by (with_reducible repeat (first | refine blk_drewN ?_ _ | refine blk_drew ?_ | refine blk_alloc ?_ _)); exact BK132.out) hb); have n3_ := Aside0.mk (below_step (by repeat (first | (with_reducible first | exact HB.out | apply below_alloc | apply pw_below_drewN | apply below_drew1 | refine below_set ?_ GE130.out | refine below_set ?_ GE131.out | refine below_set ?_ GE132.out) | exact HB.out)) hb); clear BK130; clear BK131; clear BK132; clear HB; have BK130 := n0_; have BK131 := n1_; have BK132 := n2_; have HB := n3_; clear n0_ n1_ n2_ n3_; (try clear hb); (try clear hb2); (try clear hk); (try clear hi)) | ((with_reducible refine gate_dst (N := 8) rfl ?_); refine box_event ?hg (N := 8) ?hd (cs := #[.int .i64 0, .int .i64 0, .int .u64 0, .string (⟨#[]⟩ : ByteArray)]) (t := 25) ?hr ?_; (case hd => rfl); (case hg => rfl); (case hr => first | (go_simp; done) | (go_simp; rfl)); intro gb137 hg w24 hbox hb; have n0_ := Aside0.mk (blk_below (g := gb130) (o := .cells #[.int .i64 a1_0, .int .i64 a1_1, .int .u64 a1_2, .string a1_3] 25 (0, 0)) (by (with_reducible repeat (first | refine blk_drewN ?_ _ | refine blk_drew ?_ | refine blk_alloc ?_ _)); exact BK130.out) hb); have n1_ := Aside0.mk (blk_below (g := gb131) (o := .cells #[.int .i64 a2_0, .int .i64 a2_1, .int .u64 a2_2, .string a2_3] 25 (0, 0)) (by (with_reducible repeat (first | refine blk_drewN ?_ _ | refine blk_drew ?_ | refine blk_alloc ?_ _)); exact BK131.out) hb); have n2_ := Aside0.mk (blk_below (g := gb132) (o := .cells #[.int .i64 0, .int .i64 0, .int .u64 0, .string (⟨#[]⟩ : ByteArray)] 25 (0, 0)) (by (with_reducible repeat (first | refine blk_drewN ?_ _ | refine blk_drew ?_ | refine blk_alloc ?_ _)); exact BK132.out) hb); have n3_ := Aside0.mk (below_step (by repeat (first | (with_reducible first | exact HB.out | apply below_alloc | apply pw_below_drewN | apply below_drew1 | refine below_set ?_ GE130.out | refine below_set ?_ GE131.out | refine below_set ?_ GE132.out) | exact HB.out)) hb); have n4_ := Aside0.mk (hbox); have n5_ := Aside0.mk ((by rw [hg]; exact (below_size (by repeat (first | (with_reducible first | exact HB.out | apply below_alloc | apply pw_below_drewN | apply below_drew1 | refine below_set ?_ GE130.out | refine below_set ?_ GE131.out | refine below_set ?_ GE132.out) | exact HB.out))) : w.heap.size ≤ gb137)); have n6_ := Aside0.mk ((by rw [hg]; exact (below_size (by repeat (first | (with_reducible first | exact HB.out | apply below_alloc | apply pw_below_drewN | apply below_drew1 | refine below_set ?_ GE130.out | refine below_set ?_ GE131.out | refine below_set ?_ GE132.out) | exact HB.out))) : w.heap.size ≤ gb137)); have n7_ := Aside0.mk ((by rw [hg]; exact Nat.ne_of_lt (blk_lt (g := gb130) (o := .cells #[.int .i64 a1_0, .int .i64 a1_1, .int .u64 a1_2, .string a1_3] 25 (0, 0)) (by (with_reducible repeat (first | refine blk_drewN ?_ _ | refine blk_drew ?_ | refine blk_alloc ?_ _)); exact BK130.out)) : gb130 ≠ gb137)); have n8_ := Aside0.mk ((by rw [hg]; exact Nat.ne_of_gt (blk_lt (g := gb130) (o := .cells #[.int .i64 a1_0, .int .i64 a1_1, .int .u64 a1_2, .string a1_3] 25 (0, 0)) (by (with_reducible repeat (first | refine blk_drewN ?_ _ | refine blk_drew ?_ | refine blk_alloc ?_ _)); exact BK130.out)) : gb137 ≠ gb130)); have n9_ := Aside0.mk ((by rw [hg]; exact Nat.ne_of_lt (blk_lt (g := gb131) (o := .cells #[.int .i64 a2_0, .int .i64 a2_1, .int .u64 a2_2, .string a2_3] 25 (0, 0)) (by (with_reducible repeat (first | refine blk_drewN ?_ _ | refine blk_drew ?_ | refine blk_alloc ?_ _)); exact BK131.out)) : gb131 ≠ gb137)); have n10_ := Aside0.mk ((by rw [hg]; exact Nat.ne_of_gt (blk_lt (g := gb131) (o := .cells #[.int .i64 a2_0, .int .i64 a2_1, .int .u64 a2_2, .string a2_3] 25 (0, 0)) (by (with_reducible repeat (first | refine blk_drewN ?_ _ | refine blk_drew ?_ | refine blk_alloc ?_ _)); exact BK131.out)) : gb137 ≠ gb131)); have n11_ := Aside0.mk ((by rw [hg]; exact Nat.ne_of_lt (blk_lt (g := gb132) (o := .cells #[.int .i64 0, .int .i64 0, .int .u64 0, .string (⟨#[]⟩ : ByteArray)] 25 (0, 0)) (by (with_reducible repeat (first | refine blk_drewN ?_ _ | refine blk_drew ?_ | refine blk_alloc ?_ _)); exact BK132.out)) : gb132 ≠ gb137)); have n12_ := Aside0.mk ((by rw [hg]; exact Nat.ne_of_gt (blk_lt (g := gb132) (o := .cells #[.int .i64 0, .int .i64 0, .int .u64 0, .string (⟨#[]⟩ : ByteArray)] 25 (0, 0)) (by (with_reducible repeat (first | refine blk_drewN ?_ _ | refine blk_drew ?_ | refine blk_alloc ?_ _)); exact BK132.out)) : gb137 ≠ gb132)); clear BK130; clear BK131; clear BK132; clear HB; have BK130 := n0_; have BK131 := n1_; have BK132 := n2_; have HB := n3_; have BK137 := n4_; have GW137 := n5_; have GE137 := n6_; have NB130_137 := n7_; have NB137_130 := n8_; have NB131_137 := n9_; have NB137_131 := n10_; have NB132_137 := n11_; have NB137_132 := n12_; clear n0_ n1_ n2_ n3_ n4_ n5_ n6_ n7_ n8_ n9_ n10_ n11_ n12_; clear hb hbox hg; have hnb25 := NB137_130.out; have hnc25 := NB130_137.out; have hnb26 := NB137_131.out; have hnc26 := NB131_137.out; have hnb27 := NB137_132.out; have hnc27 := NB132_137.out; have hcz28_0 : w24.cell? ⟨gb137, 0, none⟩ = some (.int .i64 0) := (blk_cell BK137.out 0).trans rfl; have hcz28_1 : w24.cell? ⟨gb137, 1, none⟩ = some (.int .i64 0) := (blk_cell BK137.out 1).trans rfl; have hcz28_2 : w24.cell? ⟨gb137, 2, none⟩ = some (.int .u64 0) := (blk_cell BK137.out 2).trans rfl; have hcz28_3 : w24.cell? ⟨gb137, 3, none⟩ = some (.string (⟨#[]⟩ : ByteArray)) := (blk_cell BK137.out 3).trans rfl; have hfz28_0 := blk_frozen BK137.out 0; have hfz28_1 := blk_frozen BK137.out 1; have hfz28_2 := blk_frozen BK137.out 2; have hfz28_3 := blk_frozen BK137.out 3))
    (try simp only [Act.put, List.setIfInBounds_toArray, List.set_cons_zero, List.set_cons_succ])
    go_cut [28] (fun v28 wc => ∃ (kq : Nat) (x28_21 : Bool), v28 = .bool x28_21 ∧ Aside0 (freshetref01_logic.j1 kq a0 x28_21 a1_0 a1_1 a1_2 a1_3 a2_0 a2_1 a2_2 a2_3 t133 t134 t135 t136 = some (r1, r2, r3, r4, r5)) ∧ Aside0 (kq ≤ kj3) ∧ Aside0 (wc.heap[gb130]? = some (.cells #[.int .i64 a1_0, .int .i64 a1_1, .int .u64 a1_2, .string a1_3] 25 (0, 0))) ∧ Aside0 (wc.heap[gb131]? = some (.cells #[.int .i64 a2_0, .int .i64 a2_1, .int .u64 a2_2, .string a2_3] 25 (0, 0))) ∧ Aside0 (wc.heap[gb132]? = some (.cells #[.int .i64 0, .int .i64 0, .int .u64 0, .string (⟨#[]⟩ : ByteArray)] 25 (0, 0))) ∧ Aside0 (wc.heap[gb137]? = some (.cells #[.int .i64 t133, .int .i64 t134, .int .u64 t135, .string t136] 25 (0, 0))) ∧ Aside0 (Below w.heap.size w wc))
    case first =>
     have H := HC22.out
     clear HC22
     by_cases c29 : (a1_0 == t133 && (a1_1 == t134 && (a1_2 == t135 && (a1_3.toList == t136.toList)))) = true
     ·rw [if_pos c29] at H
      have c29b0 : (a1_0 == t133 && (a1_1 == t134 && (a1_2 == t135 && (a1_3.toList == t136.toList)))) = true := c29
      (try (have c29b1 : decide (a1_0 = t133 && (a1_1 == t134 && (a1_2 == t135 && (a1_3.toList == t136.toList)))) = true := by simpa using c29))
      (try (have c29b2 : (a1_0 == t133 && (a1_1 == t134 && (a1_2 == t135 && (a1_3.toList == t136.toList)))) = true := by simpa using c29))
      clear c29
      (first | rw [c29b0] | (simp only [i64_w, i32_w]; rw [c29b0]) | skip)
      have H' := Aside0.mk H
      clear H
      have hnb30 := NB130_131.out
      have hnc30 := NB131_130.out
      have hnb31 := NB130_132.out
      have hnc31 := NB132_130.out
      have hnb32 := NB130_137.out
      have hnc32 := NB137_130.out
      have hcz33_0 : w24.cell? ⟨gb130, 0, none⟩ = some (.int .i64 a1_0) := (blk_cell BK130.out 0).trans rfl
      have hcz33_1 : w24.cell? ⟨gb130, 1, none⟩ = some (.int .i64 a1_1) := (blk_cell BK130.out 1).trans rfl
      have hcz33_2 : w24.cell? ⟨gb130, 2, none⟩ = some (.int .u64 a1_2) := (blk_cell BK130.out 2).trans rfl
      have hcz33_3 : w24.cell? ⟨gb130, 3, none⟩ = some (.string a1_3) := (blk_cell BK130.out 3).trans rfl
      have hfz33_0 := blk_frozen BK130.out 0
      have hfz33_1 := blk_frozen BK130.out 1
      have hfz33_2 := blk_frozen BK130.out 2
      have hfz33_3 := blk_frozen BK130.out 3
      have hnb34 := NB137_131.out
      have hnc34 := NB131_137.out
      have hnb35 := NB137_132.out
      have hnc35 := NB132_137.out
      have hcz36_0 : w24.cell? ⟨gb137, 0, none⟩ = some (.int .i64 0) := (blk_cell BK137.out 0).trans rfl
      have hcz36_1 : w24.cell? ⟨gb137, 1, none⟩ = some (.int .i64 0) := (blk_cell BK137.out 1).trans rfl
      have hcz36_2 : w24.cell? ⟨gb137, 2, none⟩ = some (.int .u64 0) := (blk_cell BK137.out 2).trans rfl
      have hcz36_3 : w24.cell? ⟨gb137, 3, none⟩ = some (.string (⟨#[]⟩ : ByteArray)) := (blk_cell BK137.out 3).trans rfl
      have hfz36_0 := blk_frozen BK137.out 0
      have hfz36_1 := blk_frozen BK137.out 1
      have hfz36_2 := blk_frozen BK137.out 2
      have hfz36_3 := blk_frozen BK137.out 3
      go_wp2
      go_meet
      case rel => exact ⟨_, (true), (by first | rfl | (simp; done) | (simp [*]; done)), H', ⟨by have := HJ3.out; first | omega | exact Nat.le_refl _⟩, ⟨by (with_reducible repeat (first | refine blk_drewN ?_ _ | refine blk_drew ?_ | refine blk_alloc ?_ _)); refine blk_far ?_ NB130_137.out _; (with_reducible repeat (first | refine blk_drewN ?_ _ | refine blk_drew ?_ | refine blk_alloc ?_ _)); refine blk_far ?_ NB130_137.out _; (with_reducible repeat (first | refine blk_drewN ?_ _ | refine blk_drew ?_ | refine blk_alloc ?_ _)); refine blk_far ?_ NB130_137.out _; (with_reducible repeat (first | refine blk_drewN ?_ _ | refine blk_drew ?_ | refine blk_alloc ?_ _)); refine blk_far ?_ NB130_137.out _; (with_reducible repeat (first | refine blk_drewN ?_ _ | refine blk_drew ?_ | refine blk_alloc ?_ _)); exact BK130.out⟩, ⟨by (with_reducible repeat (first | refine blk_drewN ?_ _ | refine blk_drew ?_ | refine blk_alloc ?_ _)); refine blk_far ?_ NB131_137.out _; (with_reducible repeat (first | refine blk_drewN ?_ _ | refine blk_drew ?_ | refine blk_alloc ?_ _)); refine blk_far ?_ NB131_137.out _; (with_reducible repeat (first | refine blk_drewN ?_ _ | refine blk_drew ?_ | refine blk_alloc ?_ _)); refine blk_far ?_ NB131_137.out _; (with_reducible repeat (first | refine blk_drewN ?_ _ | refine blk_drew ?_ | refine blk_alloc ?_ _)); refine blk_far ?_ NB131_137.out _; (with_reducible repeat (first | refine blk_drewN ?_ _ | refine blk_drew ?_ | refine blk_alloc ?_ _)); exact BK131.out⟩, ⟨by (with_reducible repeat (first | refine blk_drewN ?_ _ | refine blk_drew ?_ | refine blk_alloc ?_ _)); refine blk_far ?_ NB132_137.out _; (with_reducible repeat (first | refine blk_drewN ?_ _ | refine blk_drew ?_ | refine blk_alloc ?_ _)); refine blk_far ?_ NB132_137.out _; (with_reducible repeat (first | refine blk_drewN ?_ _ | refine blk_drew ?_ | refine blk_alloc ?_ _)); refine blk_far ?_ NB132_137.out _; (with_reducible repeat (first | refine blk_drewN ?_ _ | refine blk_drew ?_ | refine blk_alloc ?_ _)); refine blk_far ?_ NB132_137.out _; (with_reducible repeat (first | refine blk_drewN ?_ _ | refine blk_drew ?_ | refine blk_alloc ?_ _)); exact BK132.out⟩, ⟨by (with_reducible repeat (first | refine blk_drewN ?_ _ | refine blk_drew ?_ | refine blk_alloc ?_ _)); refine blk_put (cs := #[.int .i64 t133, .int .i64 t134, .int .u64 t135, .string (⟨#[]⟩ : ByteArray)]) ?_ 3 _ rfl; refine blk_put (cs := #[.int .i64 t133, .int .i64 t134, .int .u64 0, .string (⟨#[]⟩ : ByteArray)]) ?_ 2 _ rfl; refine blk_put (cs := #[.int .i64 t133, .int .i64 0, .int .u64 0, .string (⟨#[]⟩ : ByteArray)]) ?_ 1 _ rfl; refine blk_put (cs := #[.int .i64 0, .int .i64 0, .int .u64 0, .string (⟨#[]⟩ : ByteArray)]) ?_ 0 _ rfl; (with_reducible repeat (first | refine blk_drewN ?_ _ | refine blk_drew ?_ | refine blk_alloc ?_ _)); exact BK137.out⟩, ⟨by repeat (first | (with_reducible first | exact HB.out | apply below_alloc | apply pw_below_drewN | apply below_drew1 | refine below_set ?_ GE130.out | refine below_set ?_ GE131.out | refine below_set ?_ GE132.out | refine below_set ?_ GE137.out) | exact HB.out)⟩⟩
     ·rw [if_neg c29] at H
      have c29b0 : (a1_0 == t133 && (a1_1 == t134 && (a1_2 == t135 && (a1_3.toList == t136.toList)))) = false := by simpa using c29
      (try (have c29b1 : decide (a1_0 = t133 && (a1_1 == t134 && (a1_2 == t135 && (a1_3.toList == t136.toList)))) = false := by simpa using c29))
      (try (have c29b2 : (a1_0 == t133 && (a1_1 == t134 && (a1_2 == t135 && (a1_3.toList == t136.toList)))) = false := by simpa using c29))
      (try (have c29b3 : ¬ (a1_0 = t133 && (a1_1 == t134 && (a1_2 == t135 && (a1_3.toList == t136.toList)))) := by simpa using c29))
      clear c29
      (first | rw [c29b0] | (simp only [i64_w, i32_w]; rw [c29b0]) | skip)
      have H' := Aside0.mk H
      clear H
      have hnb37 := NB130_131.out
      have hnc37 := NB131_130.out
      have hnb38 := NB130_132.out
      have hnc38 := NB132_130.out
      have hnb39 := NB130_137.out
      have hnc39 := NB137_130.out
      have hcz40_0 : w24.cell? ⟨gb130, 0, none⟩ = some (.int .i64 a1_0) := (blk_cell BK130.out 0).trans rfl
      have hcz40_1 : w24.cell? ⟨gb130, 1, none⟩ = some (.int .i64 a1_1) := (blk_cell BK130.out 1).trans rfl
      have hcz40_2 : w24.cell? ⟨gb130, 2, none⟩ = some (.int .u64 a1_2) := (blk_cell BK130.out 2).trans rfl
      have hcz40_3 : w24.cell? ⟨gb130, 3, none⟩ = some (.string a1_3) := (blk_cell BK130.out 3).trans rfl
      have hfz40_0 := blk_frozen BK130.out 0
      have hfz40_1 := blk_frozen BK130.out 1
      have hfz40_2 := blk_frozen BK130.out 2
      have hfz40_3 := blk_frozen BK130.out 3
      have hnb41 := NB137_131.out
      have hnc41 := NB131_137.out
      have hnb42 := NB137_132.out
      have hnc42 := NB132_137.out
      have hcz43_0 : w24.cell? ⟨gb137, 0, none⟩ = some (.int .i64 0) := (blk_cell BK137.out 0).trans rfl
      have hcz43_1 : w24.cell? ⟨gb137, 1, none⟩ = some (.int .i64 0) := (blk_cell BK137.out 1).trans rfl
      have hcz43_2 : w24.cell? ⟨gb137, 2, none⟩ = some (.int .u64 0) := (blk_cell BK137.out 2).trans rfl
      have hcz43_3 : w24.cell? ⟨gb137, 3, none⟩ = some (.string (⟨#[]⟩ : ByteArray)) := (blk_cell BK137.out 3).trans rfl
      have hfz43_0 := blk_frozen BK137.out 0
      have hfz43_1 := blk_frozen BK137.out 1
      have hfz43_2 := blk_frozen BK137.out 2
      have hfz43_3 := blk_frozen BK137.out 3
      have hnb44 := NB131_132.out
      have hnc44 := NB132_131.out
      have hcz45_0 : w24.cell? ⟨gb131, 0, none⟩ = some (.int .i64 a2_0) := (blk_cell BK131.out 0).trans rfl
      have hcz45_1 : w24.cell? ⟨gb131, 1, none⟩ = some (.int .i64 a2_1) := (blk_cell BK131.out 1).trans rfl
      have hcz45_2 : w24.cell? ⟨gb131, 2, none⟩ = some (.int .u64 a2_2) := (blk_cell BK131.out 2).trans rfl
      have hcz45_3 : w24.cell? ⟨gb131, 3, none⟩ = some (.string a2_3) := (blk_cell BK131.out 3).trans rfl
      have hfz45_0 := blk_frozen BK131.out 0
      have hfz45_1 := blk_frozen BK131.out 1
      have hfz45_2 := blk_frozen BK131.out 2
      have hfz45_3 := blk_frozen BK131.out 3
      go_wp2
      go_meet
      case rel => exact ⟨_, ((a2_0 == t133 && (a2_1 == t134 && (a2_2 == t135 && (a2_3.toList == t136.toList))))), (by first | rfl | (simp; done) | (simp [*]; done)), H', ⟨by have := HJ3.out; first | omega | exact Nat.le_refl _⟩, ⟨by (with_reducible repeat (first | refine blk_drewN ?_ _ | refine blk_drew ?_ | refine blk_alloc ?_ _)); refine blk_far ?_ NB130_137.out _; (with_reducible repeat (first | refine blk_drewN ?_ _ | refine blk_drew ?_ | refine blk_alloc ?_ _)); refine blk_far ?_ NB130_137.out _; (with_reducible repeat (first | refine blk_drewN ?_ _ | refine blk_drew ?_ | refine blk_alloc ?_ _)); refine blk_far ?_ NB130_137.out _; (with_reducible repeat (first | refine blk_drewN ?_ _ | refine blk_drew ?_ | refine blk_alloc ?_ _)); refine blk_far ?_ NB130_137.out _; (with_reducible repeat (first | refine blk_drewN ?_ _ | refine blk_drew ?_ | refine blk_alloc ?_ _)); exact BK130.out⟩, ⟨by (with_reducible repeat (first | refine blk_drewN ?_ _ | refine blk_drew ?_ | refine blk_alloc ?_ _)); refine blk_far ?_ NB131_137.out _; (with_reducible repeat (first | refine blk_drewN ?_ _ | refine blk_drew ?_ | refine blk_alloc ?_ _)); refine blk_far ?_ NB131_137.out _; (with_reducible repeat (first | refine blk_drewN ?_ _ | refine blk_drew ?_ | refine blk_alloc ?_ _)); refine blk_far ?_ NB131_137.out _; (with_reducible repeat (first | refine blk_drewN ?_ _ | refine blk_drew ?_ | refine blk_alloc ?_ _)); refine blk_far ?_ NB131_137.out _; (with_reducible repeat (first | refine blk_drewN ?_ _ | refine blk_drew ?_ | refine blk_alloc ?_ _)); exact BK131.out⟩, ⟨by (with_reducible repeat (first | refine blk_drewN ?_ _ | refine blk_drew ?_ | refine blk_alloc ?_ _)); refine blk_far ?_ NB132_137.out _; (with_reducible repeat (first | refine blk_drewN ?_ _ | refine blk_drew ?_ | refine blk_alloc ?_ _)); refine blk_far ?_ NB132_137.out _; (with_reducible repeat (first | refine blk_drewN ?_ _ | refine blk_drew ?_ | refine blk_alloc ?_ _)); refine blk_far ?_ NB132_137.out _; (with_reducible repeat (first | refine blk_drewN ?_ _ | refine blk_drew ?_ | refine blk_alloc ?_ _)); refine blk_far ?_ NB132_137.out _; (with_reducible repeat (first | refine blk_drewN ?_ _ | refine blk_drew ?_ | refine blk_alloc ?_ _)); exact BK132.out⟩, ⟨by (with_reducible repeat (first | refine blk_drewN ?_ _ | refine blk_drew ?_ | refine blk_alloc ?_ _)); refine blk_put (cs := #[.int .i64 t133, .int .i64 t134, .int .u64 t135, .string (⟨#[]⟩ : ByteArray)]) ?_ 3 _ rfl; refine blk_put (cs := #[.int .i64 t133, .int .i64 t134, .int .u64 0, .string (⟨#[]⟩ : ByteArray)]) ?_ 2 _ rfl; refine blk_put (cs := #[.int .i64 t133, .int .i64 0, .int .u64 0, .string (⟨#[]⟩ : ByteArray)]) ?_ 1 _ rfl; refine blk_put (cs := #[.int .i64 0, .int .i64 0, .int .u64 0, .string (⟨#[]⟩ : ByteArray)]) ?_ 0 _ rfl; (with_reducible repeat (first | refine blk_drewN ?_ _ | refine blk_drew ?_ | refine blk_alloc ?_ _)); exact BK137.out⟩, ⟨by repeat (first | (with_reducible first | exact HB.out | apply below_alloc | apply pw_below_drewN | apply below_drew1 | refine below_set ?_ GE130.out | refine below_set ?_ GE131.out | refine below_set ?_ GE132.out | refine below_set ?_ GE137.out) | exact HB.out)⟩⟩
    case rest =>
     clear HC22
     try clear c1
     try clear c2
     try clear p2
     try clear c3
     try clear c4
     try clear c8
     try clear c8b0
     try clear c9
     try clear c10
     try clear c12
     try clear c13
     try clear c15
     try clear c17
     try clear c18
     try clear c19
     try clear c20
     try clear c25
     try clear c26
     try clear c27
     try clear c29
     try clear c29b0
     try clear c29b1
     try clear c29b2
     try clear c30
     try clear c31
     try clear c32
     try clear c34
     try clear c35
     try clear c37
     try clear c38
     try clear c39
     try clear c41
     try clear c42
     try clear c44
     try clear hcz11_0
     try clear hcz11_1
     try clear hcz11_2
     try clear hcz11_3
     try clear hcz14_0
     try clear hcz14_1
     try clear hcz14_2
     try clear hcz14_3
     try clear hcz16_0
     try clear hcz16_1
     try clear hcz16_2
     try clear hcz16_3
     try clear hcz20_0
     try clear hcz20_1
     try clear hcz20_2
     try clear hcz20_3
     try clear hcz28_0
     try clear hcz28_1
     try clear hcz28_2
     try clear hcz28_3
     try clear hcz33_0
     try clear hcz33_1
     try clear hcz33_2
     try clear hcz33_3
     try clear hcz36_0
     try clear hcz36_1
     try clear hcz36_2
     try clear hcz36_3
     try clear hcz40_0
     try clear hcz40_1
     try clear hcz40_2
     try clear hcz40_3
     try clear hcz43_0
     try clear hcz43_1
     try clear hcz43_2
     try clear hcz43_3
     try clear hcz45_0
     try clear hcz45_1
     try clear hcz45_2
     try clear hcz45_3
     try clear hfz11_0
     try clear hfz11_1
     try clear hfz11_2
     try clear hfz11_3
     try clear hfz14_0
     try clear hfz14_1
     try clear hfz14_2
     try clear hfz14_3
     try clear hfz16_0
     try clear hfz16_1
     try clear hfz16_2
     try clear hfz16_3
     try clear hfz20_0
     try clear hfz20_1
     try clear hfz20_2
     try clear hfz20_3
     try clear hfz28_0
     try clear hfz28_1
     try clear hfz28_2
     try clear hfz28_3
     try clear hfz33_0
     try clear hfz33_1
     try clear hfz33_2
     try clear hfz33_3
     try clear hfz36_0
     try clear hfz36_1
     try clear hfz36_2
     try clear hfz36_3
     try clear hfz40_0
     try clear hfz40_1
     try clear hfz40_2
     try clear hfz40_3
     try clear hfz43_0
     try clear hfz43_1
     try clear hfz43_2
     try clear hfz43_3
     try clear hfz45_0
     try clear hfz45_1
     try clear hfz45_2
     try clear hfz45_3
     try clear p2
     obtain ⟨kq, x28_21, rfl, HA, HJ21, BK130, BK131, BK132, BK137, HB⟩ := hcut
     cases kq with
     | zero => exact absurd HA.out (by simp [freshetref01_logic.j1])
     | succ kj21 =>
      have H := HA.out
      clear HA
      simp only [freshetref01_logic.j1] at H
      by_cases c46 : x28_21 = true
      ·subst c46
       have H1 : (some (t133, t134, t135, t136, 0)) = some (r1, r2, r3, r4, r5) := by rw [if_pos rfl] at H; exact H
       clear H
       have H := H1
       clear H1
       simp only [Option.some.injEq, Prod.mk.injEq] at H
       obtain ⟨rfl, rfl, rfl, rfl, rfl⟩ := H
       have hnb47 := NB137_130.out
       have hnc47 := NB130_137.out
       have hnb48 := NB137_131.out
       have hnc48 := NB131_137.out
       have hnb49 := NB137_132.out
       have hnc49 := NB132_137.out
       have hcz50_0 : wc.cell? ⟨gb137, 0, none⟩ = some (.int .i64 t133) := (blk_cell BK137.out 0).trans rfl
       have hcz50_1 : wc.cell? ⟨gb137, 1, none⟩ = some (.int .i64 t134) := (blk_cell BK137.out 1).trans rfl
       have hcz50_2 : wc.cell? ⟨gb137, 2, none⟩ = some (.int .u64 t135) := (blk_cell BK137.out 2).trans rfl
       have hcz50_3 : wc.cell? ⟨gb137, 3, none⟩ = some (.string t136) := (blk_cell BK137.out 3).trans rfl
       have hfz50_0 := blk_frozen BK137.out 0
       have hfz50_1 := blk_frozen BK137.out 1
       have hfz50_2 := blk_frozen BK137.out 2
       have hfz50_3 := blk_frozen BK137.out 3
       have hnb51 := NB132_130.out
       have hnc51 := NB130_132.out
       have hnb52 := NB132_131.out
       have hnc52 := NB131_132.out
       have hcz53_0 : wc.cell? ⟨gb132, 0, none⟩ = some (.int .i64 0) := (blk_cell BK132.out 0).trans rfl
       have hcz53_1 : wc.cell? ⟨gb132, 1, none⟩ = some (.int .i64 0) := (blk_cell BK132.out 1).trans rfl
       have hcz53_2 : wc.cell? ⟨gb132, 2, none⟩ = some (.int .u64 0) := (blk_cell BK132.out 2).trans rfl
       have hcz53_3 : wc.cell? ⟨gb132, 3, none⟩ = some (.string (⟨#[]⟩ : ByteArray)) := (blk_cell BK132.out 3).trans rfl
       have hfz53_0 := blk_frozen BK132.out 0
       have hfz53_1 := blk_frozen BK132.out 1
       have hfz53_2 := blk_frozen BK132.out 2
       have hfz53_3 := blk_frozen BK132.out 3
       go_wp2
       refine bodyPost_ret (results_ct rfl _ _ gb132 25 #[.int .i64 t133, .int .i64 t134, .int .u64 t135, .string t136] (0, 0) _ rfl (by (with_reducible repeat (first | refine blk_drewN ?_ _ | refine blk_drew ?_ | refine blk_alloc ?_ _)); refine blk_put (cs := #[.int .i64 t133, .int .i64 t134, .int .u64 t135, .string (⟨#[]⟩ : ByteArray)]) ?_ 3 _ rfl; refine blk_put (cs := #[.int .i64 t133, .int .i64 t134, .int .u64 0, .string (⟨#[]⟩ : ByteArray)]) ?_ 2 _ rfl; refine blk_put (cs := #[.int .i64 t133, .int .i64 0, .int .u64 0, .string (⟨#[]⟩ : ByteArray)]) ?_ 1 _ rfl; refine blk_put (cs := #[.int .i64 0, .int .i64 0, .int .u64 0, .string (⟨#[]⟩ : ByteArray)]) ?_ 0 _ rfl; (with_reducible repeat (first | refine blk_drewN ?_ _ | refine blk_drew ?_ | refine blk_alloc ?_ _)); exact BK132.out) Tryz.underlying25 rfl (by kernel_rfl)) rfl ?_
       exact ⟨by first | rfl | (simp [errW_none, errW_some] <;> rfl) | (simp [*, errW_none, errW_some] <;> rfl), by repeat (first | (with_reducible first | exact HB.out | apply below_alloc | apply pw_below_drewN | apply below_drew1 | refine below_set ?_ GE130.out | refine below_set ?_ GE131.out | refine below_set ?_ GE132.out | refine below_set ?_ GE137.out) | exact HB.out)⟩
      ·replace c46 := Bool.eq_false_iff.mpr c46
       subst c46
       have H1 : (if a1_0 = 0 then (some (0, 0, 0, (⟨#[]⟩ : ByteArray), 0)) else (if a2_0 = 0 then (some (0, 0, 0, (⟨#[]⟩ : ByteArray), 0)) else ((freshetref01_OfBool.f (a0 == 22)).bind fun bt138 => (some (bt138.1, bt138.2.1, bt138.2.2.1, bt138.2.2.2, 0))))) = some (r1, r2, r3, r4, r5) := by rw [if_neg (show ¬ (false = true) by decide)] at H; exact H
       clear H
       have H := H1
       clear H1
       by_cases c54 : a1_0 = 0
       ·rw [if_pos c54] at H
        have c54b0 : (a1_0 == 0) = true := beq_iff_eq.mpr c54
        have c54b1 : (a1_0 != 0) = false := bne_eq_false_iff_eq.mpr c54
        clear c54
        simp only [Option.some.injEq, Prod.mk.injEq] at H
        obtain ⟨rfl, rfl, rfl, rfl, rfl⟩ := H
        have hnb55 := NB130_131.out
        have hnc55 := NB131_130.out
        have hnb56 := NB130_132.out
        have hnc56 := NB132_130.out
        have hnb57 := NB130_137.out
        have hnc57 := NB137_130.out
        have hcz58_0 : wc.cell? ⟨gb130, 0, none⟩ = some (.int .i64 a1_0) := (blk_cell BK130.out 0).trans rfl
        have hcz58_1 : wc.cell? ⟨gb130, 1, none⟩ = some (.int .i64 a1_1) := (blk_cell BK130.out 1).trans rfl
        have hcz58_2 : wc.cell? ⟨gb130, 2, none⟩ = some (.int .u64 a1_2) := (blk_cell BK130.out 2).trans rfl
        have hcz58_3 : wc.cell? ⟨gb130, 3, none⟩ = some (.string a1_3) := (blk_cell BK130.out 3).trans rfl
        have hfz58_0 := blk_frozen BK130.out 0
        have hfz58_1 := blk_frozen BK130.out 1
        have hfz58_2 := blk_frozen BK130.out 2
        have hfz58_3 := blk_frozen BK130.out 3
        have hnb59 := NB132_131.out
        have hnc59 := NB131_132.out
        have hnb60 := NB132_137.out
        have hnc60 := NB137_132.out
        have hcz61_0 : wc.cell? ⟨gb132, 0, none⟩ = some (.int .i64 0) := (blk_cell BK132.out 0).trans rfl
        have hcz61_1 : wc.cell? ⟨gb132, 1, none⟩ = some (.int .i64 0) := (blk_cell BK132.out 1).trans rfl
        have hcz61_2 : wc.cell? ⟨gb132, 2, none⟩ = some (.int .u64 0) := (blk_cell BK132.out 2).trans rfl
        have hcz61_3 : wc.cell? ⟨gb132, 3, none⟩ = some (.string (⟨#[]⟩ : ByteArray)) := (blk_cell BK132.out 3).trans rfl
        have hfz61_0 := blk_frozen BK132.out 0
        have hfz61_1 := blk_frozen BK132.out 1
        have hfz61_2 := blk_frozen BK132.out 2
        have hfz61_3 := blk_frozen BK132.out 3
        go_wp2
        refine bodyPost_ret (results_ct rfl _ _ gb132 25 #[.int .i64 0, .int .i64 0, .int .u64 0, .string (⟨#[]⟩ : ByteArray)] (0, 0) _ rfl (by (with_reducible repeat (first | refine blk_drewN ?_ _ | refine blk_drew ?_ | refine blk_alloc ?_ _)); refine blk_put (cs := #[.int .i64 0, .int .i64 0, .int .u64 0, .string (⟨#[]⟩ : ByteArray)]) ?_ 3 _ rfl; refine blk_put (cs := #[.int .i64 0, .int .i64 0, .int .u64 0, .string (⟨#[]⟩ : ByteArray)]) ?_ 2 _ rfl; refine blk_put (cs := #[.int .i64 0, .int .i64 0, .int .u64 0, .string (⟨#[]⟩ : ByteArray)]) ?_ 1 _ rfl; refine blk_put (cs := #[.int .i64 0, .int .i64 0, .int .u64 0, .string (⟨#[]⟩ : ByteArray)]) ?_ 0 _ rfl; (with_reducible repeat (first | refine blk_drewN ?_ _ | refine blk_drew ?_ | refine blk_alloc ?_ _)); exact BK132.out) Tryz.underlying25 rfl (by kernel_rfl)) rfl ?_
        exact ⟨by first | rfl | (simp [errW_none, errW_some] <;> rfl) | (simp [*, errW_none, errW_some] <;> rfl), by repeat (first | (with_reducible first | exact HB.out | apply below_alloc | apply pw_below_drewN | apply below_drew1 | refine below_set ?_ GE130.out | refine below_set ?_ GE131.out | refine below_set ?_ GE132.out | refine below_set ?_ GE137.out) | exact HB.out)⟩
       ·rw [if_neg c54] at H
        have c54b0 : (a1_0 == 0) = false := beq_eq_false_iff_ne.mpr c54
        have c54b1 : (a1_0 != 0) = true := bne_iff_ne.mpr c54
        by_cases c62 : a2_0 = 0
        ·rw [if_pos c62] at H
         have c62b0 : (a2_0 == 0) = true := beq_iff_eq.mpr c62
         have c62b1 : (a2_0 != 0) = false := bne_eq_false_iff_eq.mpr c62
         clear c62
         simp only [Option.some.injEq, Prod.mk.injEq] at H
         obtain ⟨rfl, rfl, rfl, rfl, rfl⟩ := H
         have hnb63 := NB130_131.out
         have hnc63 := NB131_130.out
         have hnb64 := NB130_132.out
         have hnc64 := NB132_130.out
         have hnb65 := NB130_137.out
         have hnc65 := NB137_130.out
         have hcz66_0 : wc.cell? ⟨gb130, 0, none⟩ = some (.int .i64 a1_0) := (blk_cell BK130.out 0).trans rfl
         have hcz66_1 : wc.cell? ⟨gb130, 1, none⟩ = some (.int .i64 a1_1) := (blk_cell BK130.out 1).trans rfl
         have hcz66_2 : wc.cell? ⟨gb130, 2, none⟩ = some (.int .u64 a1_2) := (blk_cell BK130.out 2).trans rfl
         have hcz66_3 : wc.cell? ⟨gb130, 3, none⟩ = some (.string a1_3) := (blk_cell BK130.out 3).trans rfl
         have hfz66_0 := blk_frozen BK130.out 0
         have hfz66_1 := blk_frozen BK130.out 1
         have hfz66_2 := blk_frozen BK130.out 2
         have hfz66_3 := blk_frozen BK130.out 3
         have hnb67 := NB131_132.out
         have hnc67 := NB132_131.out
         have hnb68 := NB131_137.out
         have hnc68 := NB137_131.out
         have hcz69_0 : wc.cell? ⟨gb131, 0, none⟩ = some (.int .i64 a2_0) := (blk_cell BK131.out 0).trans rfl
         have hcz69_1 : wc.cell? ⟨gb131, 1, none⟩ = some (.int .i64 a2_1) := (blk_cell BK131.out 1).trans rfl
         have hcz69_2 : wc.cell? ⟨gb131, 2, none⟩ = some (.int .u64 a2_2) := (blk_cell BK131.out 2).trans rfl
         have hcz69_3 : wc.cell? ⟨gb131, 3, none⟩ = some (.string a2_3) := (blk_cell BK131.out 3).trans rfl
         have hfz69_0 := blk_frozen BK131.out 0
         have hfz69_1 := blk_frozen BK131.out 1
         have hfz69_2 := blk_frozen BK131.out 2
         have hfz69_3 := blk_frozen BK131.out 3
         have hnb70 := NB132_137.out
         have hnc70 := NB137_132.out
         have hcz71_0 : wc.cell? ⟨gb132, 0, none⟩ = some (.int .i64 0) := (blk_cell BK132.out 0).trans rfl
         have hcz71_1 : wc.cell? ⟨gb132, 1, none⟩ = some (.int .i64 0) := (blk_cell BK132.out 1).trans rfl
         have hcz71_2 : wc.cell? ⟨gb132, 2, none⟩ = some (.int .u64 0) := (blk_cell BK132.out 2).trans rfl
         have hcz71_3 : wc.cell? ⟨gb132, 3, none⟩ = some (.string (⟨#[]⟩ : ByteArray)) := (blk_cell BK132.out 3).trans rfl
         have hfz71_0 := blk_frozen BK132.out 0
         have hfz71_1 := blk_frozen BK132.out 1
         have hfz71_2 := blk_frozen BK132.out 2
         have hfz71_3 := blk_frozen BK132.out 3
         go_wp2
         refine bodyPost_ret (results_ct rfl _ _ gb132 25 #[.int .i64 0, .int .i64 0, .int .u64 0, .string (⟨#[]⟩ : ByteArray)] (0, 0) _ rfl (by (with_reducible repeat (first | refine blk_drewN ?_ _ | refine blk_drew ?_ | refine blk_alloc ?_ _)); refine blk_put (cs := #[.int .i64 0, .int .i64 0, .int .u64 0, .string (⟨#[]⟩ : ByteArray)]) ?_ 3 _ rfl; refine blk_put (cs := #[.int .i64 0, .int .i64 0, .int .u64 0, .string (⟨#[]⟩ : ByteArray)]) ?_ 2 _ rfl; refine blk_put (cs := #[.int .i64 0, .int .i64 0, .int .u64 0, .string (⟨#[]⟩ : ByteArray)]) ?_ 1 _ rfl; refine blk_put (cs := #[.int .i64 0, .int .i64 0, .int .u64 0, .string (⟨#[]⟩ : ByteArray)]) ?_ 0 _ rfl; (with_reducible repeat (first | refine blk_drewN ?_ _ | refine blk_drew ?_ | refine blk_alloc ?_ _)); exact BK132.out) Tryz.underlying25 rfl (by kernel_rfl)) rfl ?_
         exact ⟨by first | rfl | (simp [errW_none, errW_some] <;> rfl) | (simp [*, errW_none, errW_some] <;> rfl), by repeat (first | (with_reducible first | exact HB.out | apply below_alloc | apply pw_below_drewN | apply below_drew1 | refine below_set ?_ GE130.out | refine below_set ?_ GE131.out | refine below_set ?_ GE132.out | refine below_set ?_ GE137.out) | exact HB.out)⟩
        ·rw [if_neg c62] at H
         have c62b0 : (a2_0 == 0) = false := beq_eq_false_iff_ne.mpr c62
         have c62b1 : (a2_0 != 0) = true := bne_iff_ne.mpr c62
         replace H := Option.bind_eq_some_iff.mp H
         obtain ⟨⟨t138, t139, t140, t141⟩, A720, H⟩ := H
         replace H : (some (t138, t139, t140, t141, 0)) = some (r1, r2, r3, r4, r5) := H
         have A72 := Aside0.mk A720
         clear A720
         simp only [Option.some.injEq, Prod.mk.injEq] at H
         obtain ⟨rfl, rfl, rfl, rfl, rfl⟩ := H
         have hnb73 := NB130_131.out
         have hnc73 := NB131_130.out
         have hnb74 := NB130_132.out
         have hnc74 := NB132_130.out
         have hnb75 := NB130_137.out
         have hnc75 := NB137_130.out
         have hcz76_0 : wc.cell? ⟨gb130, 0, none⟩ = some (.int .i64 a1_0) := (blk_cell BK130.out 0).trans rfl
         have hcz76_1 : wc.cell? ⟨gb130, 1, none⟩ = some (.int .i64 a1_1) := (blk_cell BK130.out 1).trans rfl
         have hcz76_2 : wc.cell? ⟨gb130, 2, none⟩ = some (.int .u64 a1_2) := (blk_cell BK130.out 2).trans rfl
         have hcz76_3 : wc.cell? ⟨gb130, 3, none⟩ = some (.string a1_3) := (blk_cell BK130.out 3).trans rfl
         have hfz76_0 := blk_frozen BK130.out 0
         have hfz76_1 := blk_frozen BK130.out 1
         have hfz76_2 := blk_frozen BK130.out 2
         have hfz76_3 := blk_frozen BK130.out 3
         have hnb77 := NB131_132.out
         have hnc77 := NB132_131.out
         have hnb78 := NB131_137.out
         have hnc78 := NB137_131.out
         have hcz79_0 : wc.cell? ⟨gb131, 0, none⟩ = some (.int .i64 a2_0) := (blk_cell BK131.out 0).trans rfl
         have hcz79_1 : wc.cell? ⟨gb131, 1, none⟩ = some (.int .i64 a2_1) := (blk_cell BK131.out 1).trans rfl
         have hcz79_2 : wc.cell? ⟨gb131, 2, none⟩ = some (.int .u64 a2_2) := (blk_cell BK131.out 2).trans rfl
         have hcz79_3 : wc.cell? ⟨gb131, 3, none⟩ = some (.string a2_3) := (blk_cell BK131.out 3).trans rfl
         have hfz79_0 := blk_frozen BK131.out 0
         have hfz79_1 := blk_frozen BK131.out 1
         have hfz79_2 := blk_frozen BK131.out 2
         have hfz79_3 := blk_frozen BK131.out 3
         go_wp2_with (first | ((with_reducible refine gate_callee (f := 20) rfl ?_); refine goesL_ (some 41) rfl rfl Tryz.func20 (by kernel_rfl) rfl #[.bool (a0 == 22)] rfl (by (try simp only [List.map_toArray, List.map_cons, List.map_nil]); first | done | rfl | (simp only [List.length_drop, List.length_take]; rfl)) ?_; (with_reducible refine (freshetref01_OfBool.calls (a0 == 22) t138 t139 t140 t141 _ A72.out).mono ?_); rintro e w80 ⟨rfl, hb⟩; refine ⟨_, rfl, ?_⟩; have n0_ := Aside0.mk (blk_below (g := gb130) (o := .cells #[.int .i64 a1_0, .int .i64 a1_1, .int .u64 a1_2, .string a1_3] 25 (0, 0)) (by (with_reducible repeat (first | refine blk_drewN ?_ _ | refine blk_drew ?_ | refine blk_alloc ?_ _)); exact BK130.out) hb); have n1_ := Aside0.mk (blk_below (g := gb131) (o := .cells #[.int .i64 a2_0, .int .i64 a2_1, .int .u64 a2_2, .string a2_3] 25 (0, 0)) (by (with_reducible repeat (first | refine blk_drewN ?_ _ | refine blk_drew ?_ | refine blk_alloc ?_ _)); exact BK131.out) hb); have n2_ := Aside0.mk (blk_below (g := gb132) (o := .cells #[.int .i64 0, .int .i64 0, .int .u64 0, .string (⟨#[]⟩ : ByteArray)] 25 (0, 0)) (by (with_reducible repeat (first | refine blk_drewN ?_ _ | refine blk_drew ?_ | refine blk_alloc ?_ _)); exact BK132.out) hb); have n3_ := Aside0.mk (blk_below (g := gb137) (o := .cells #[.int .i64 t133, .int .i64 t134, .int .u64 t135, .string t136] 25 (0, 0)) (by (with_reducible repeat (first | refine blk_drewN ?_ _ | refine blk_drew ?_ | refine blk_alloc ?_ _)); exact BK137.out) hb); have n4_ := Aside0.mk (below_step (by repeat (first | (with_reducible first | exact HB.out | apply below_alloc | apply pw_below_drewN | apply below_drew1 | refine below_set ?_ GE130.out | refine below_set ?_ GE131.out | refine below_set ?_ GE132.out | refine below_set ?_ GE137.out) | exact HB.out)) hb); clear BK130; clear BK131; clear BK132; clear BK137; clear HB; have BK130 := n0_; have BK131 := n1_; have BK132 := n2_; have BK137 := n3_; have HB := n4_; clear n0_ n1_ n2_ n3_ n4_; (try clear hb); (try clear hb2); (try clear hk); (try clear hi); have hnb81 := NB132_137.out; have hnc81 := NB137_132.out; have hcz82_0 : w80.cell? ⟨gb132, 0, none⟩ = some (.int .i64 0) := (blk_cell BK132.out 0).trans rfl; have hcz82_1 : w80.cell? ⟨gb132, 1, none⟩ = some (.int .i64 0) := (blk_cell BK132.out 1).trans rfl; have hcz82_2 : w80.cell? ⟨gb132, 2, none⟩ = some (.int .u64 0) := (blk_cell BK132.out 2).trans rfl; have hcz82_3 : w80.cell? ⟨gb132, 3, none⟩ = some (.string (⟨#[]⟩ : ByteArray)) := (blk_cell BK132.out 3).trans rfl; have hfz82_0 := blk_frozen BK132.out 0; have hfz82_1 := blk_frozen BK132.out 1; have hfz82_2 := blk_frozen BK132.out 2; have hfz82_3 := blk_frozen BK132.out 3))
         refine bodyPost_ret (results_ct rfl _ _ gb132 25 #[.int .i64 t138, .int .i64 t139, .int .u64 t140, .string t141] (0, 0) _ rfl (by (with_reducible repeat (first | refine blk_drewN ?_ _ | refine blk_drew ?_ | refine blk_alloc ?_ _)); refine blk_put (cs := #[.int .i64 t138, .int .i64 t139, .int .u64 t140, .string (⟨#[]⟩ : ByteArray)]) ?_ 3 _ rfl; refine blk_put (cs := #[.int .i64 t138, .int .i64 t139, .int .u64 0, .string (⟨#[]⟩ : ByteArray)]) ?_ 2 _ rfl; refine blk_put (cs := #[.int .i64 t138, .int .i64 0, .int .u64 0, .string (⟨#[]⟩ : ByteArray)]) ?_ 1 _ rfl; refine blk_put (cs := #[.int .i64 0, .int .i64 0, .int .u64 0, .string (⟨#[]⟩ : ByteArray)]) ?_ 0 _ rfl; (with_reducible repeat (first | refine blk_drewN ?_ _ | refine blk_drew ?_ | refine blk_alloc ?_ _)); exact BK132.out) Tryz.underlying25 rfl (by kernel_rfl)) rfl ?_
         exact ⟨by first | rfl | (simp [errW_none, errW_some] <;> rfl) | (simp [*, errW_none, errW_some] <;> rfl), by repeat (first | (with_reducible first | exact HB.out | apply below_alloc | apply pw_below_drewN | apply below_drew1 | refine below_set ?_ GE130.out | refine below_set ?_ GE131.out | refine below_set ?_ GE132.out | refine below_set ?_ GE137.out) | exact HB.out)⟩

/-! ### freshetref01_has: function 27 -/
def freshetref01_has.j0 : Nat → Int → Int → Bool → Option (Bool)
 | 0, _, _, _ => none
 | k + 1, x0, x1, x10 => if x10 = true then (some true) else (if x0 = 15 then (some (x1 == 4)) else (if x1 = 2 then (some true) else (if x1 = 3 then (some (x0 != 14)) else (some false))))
def freshetref01_has.f (k : Nat) (a0 : Int) (a1 : Int) : Option (Bool) := if a0 ≥ 16 then (freshetref01_has.j0 k a0 a1 (decide (a0 ≤ 21))) else (freshetref01_has.j0 k a0 a1 false)
theorem freshetref01_has.mono_l : ∀ k, (∀ y0 y1 y2, LeO (freshetref01_has.j0 k y0 y1 y2) (freshetref01_has.j0 (k + 1) y0 y1 y2))
 | 0 => fun _ _ _ r h => by simp [freshetref01_has.j0] at h
 | k + 1 => by
  have ih0 := freshetref01_has.mono_l k
  ·intro y0 y1 y2
   unfold freshetref01_has.j0
   repeat' first
   | (with_reducible exact ih0 _ _ _)
   | (with_reducible exact LeO.refl _)
   | (with_reducible exact LeO.none _)
   | (with_reducible refine LeO.ite ?_ ?_)
   | (with_reducible refine LeO.bind ?_ (fun _ => ?_))
   | exact ih0 _ _ _
   | exact LeO.none _
   | refine LeO.ite ?_ ?_
   | refine LeO.bind ?_ (fun _ => ?_)
theorem freshetref01_has.mono : ∀ a0 a1 k, LeO (freshetref01_has.f k a0 a1) (freshetref01_has.f (k + 1) a0 a1) := by
 intro a0 a1 k
 have ih0 := freshetref01_has.mono_l k
 unfold freshetref01_has.f
 repeat' first
   | (with_reducible exact ih0 _ _ _)
   | (with_reducible exact LeO.refl _)
   | (with_reducible exact LeO.none _)
   | (with_reducible refine LeO.ite ?_ ?_)
   | (with_reducible refine LeO.bind ?_ (fun _ => ?_))
   | exact ih0 _ _ _
   | exact LeO.none _
   | refine LeO.ite ?_ ?_
   | refine LeO.bind ?_ (fun _ => ?_)
set_option maxHeartbeats 8000000 in
set_option maxRecDepth 100000 in
theorem freshetref01_has.calls (k : Nat) (a0 : Int) (a1 : Int) (r : Bool) (w : World) (h : freshetref01_has.f k a0 a1 = some r) :
  Calls Tryz.prog 27 #[.int .i64 a0, .int .i64 a1] w fun e w' => e = .returned (.bool r) ∧ Drawn0 w w' := by
 have H : (if a0 ≥ 16 then (freshetref01_has.j0 k a0 a1 (decide (a0 ≤ 21))) else (freshetref01_has.j0 k a0 a1 false)) = some r := h
 clear h
 have HC3 := Aside0.mk H
 clear H
 go_enter Tryz.func27, Tryz.ntmps27
 go_upto_region 1 with (fail)
 go_cut [10] (fun v10 wc => ∃ (kq : Nat) (x10_2 : Bool), v10 = .bool x10_2 ∧ Aside0 (freshetref01_has.j0 kq a0 a1 x10_2 = some r) ∧ Aside0 (kq ≤ k) ∧ Drawn0 w wc)
 case first =>
  have H := HC3.out
  clear HC3
  by_cases c4 : a0 ≥ 16
  ·rw [if_pos c4] at H
   have c4b0 : decide (16 ≤ a0) = true := decide_eq_true c4
   clear c4
   (first | rw [c4b0] | (simp only [i64_w, i32_w]; rw [c4b0]) | skip)
   have H' := Aside0.mk H
   clear H
   go_wp2
   go_meet
   case rel => exact ⟨_, (decide (a0 ≤ 21)), (by first | rfl | (simp; done) | (simp [*]; done)), H', ⟨by first | omega | exact Nat.le_refl _⟩, by repeat (first | exact Drawn0.refl _ | apply Drawn0.step)⟩
  ·rw [if_neg c4] at H
   have c4b0 : decide (16 ≤ a0) = false := decide_eq_false c4
   clear c4
   (first | rw [c4b0] | (simp only [i64_w, i32_w]; rw [c4b0]) | skip)
   have H' := Aside0.mk H
   clear H
   go_wp2
   go_meet
   case rel => exact ⟨_, (false), (by first | rfl | (simp; done) | (simp [*]; done)), H', ⟨by first | omega | exact Nat.le_refl _⟩, by repeat (first | exact Drawn0.refl _ | apply Drawn0.step)⟩
 case rest =>
  clear HC3
  try clear c2
  try clear p2
  try clear c4
  try clear c4b0
  obtain ⟨kq, x10_2, rfl, HA, HJ2, ⟨mc2, rfl⟩⟩ := hcut
  cases kq with
  | zero => exact absurd HA.out (by simp [freshetref01_has.j0])
  | succ kj2 =>
   have H := HA.out
   clear HA
   simp only [freshetref01_has.j0] at H
   by_cases c5 : x10_2 = true
   ·subst c5
    have H1 : (some true) = some r := by rw [if_pos rfl] at H; exact H
    clear H
    have H := H1
    clear H1
    obtain rfl := Option.some.inj H
    go_wp2
    go_ret
    exact ⟨by first | rfl | (simp; done) | (simp [*]; done), by repeat (first | exact Drawn0.refl _ | apply Drawn0.step)⟩
   ·replace c5 := Bool.eq_false_iff.mpr c5
    subst c5
    have H1 : (if a0 = 15 then (some (a1 == 4)) else (if a1 = 2 then (some true) else (if a1 = 3 then (some (a0 != 14)) else (some false)))) = some r := by rw [if_neg (show ¬ (false = true) by decide)] at H; exact H
    clear H
    have H := H1
    clear H1
    by_cases c6 : a0 = 15
    ·rw [if_pos c6] at H
     have c6b0 : (a0 == 15) = true := beq_iff_eq.mpr c6
     have c6b1 : (a0 != 15) = false := bne_eq_false_iff_eq.mpr c6
     clear c6
     obtain rfl := Option.some.inj H
     go_wp2
     go_ret
     exact ⟨by first | rfl | (simp; done) | (simp [*]; done), by repeat (first | exact Drawn0.refl _ | apply Drawn0.step)⟩
    ·rw [if_neg c6] at H
     have c6b0 : (a0 == 15) = false := beq_eq_false_iff_ne.mpr c6
     have c6b1 : (a0 != 15) = true := bne_iff_ne.mpr c6
     by_cases c7 : a1 = 2
     ·rw [if_pos c7] at H
      have c7b0 : (a1 == 2) = true := beq_iff_eq.mpr c7
      have c7b1 : (a1 != 2) = false := bne_eq_false_iff_eq.mpr c7
      clear c7
      obtain rfl := Option.some.inj H
      go_wp2
      go_ret
      exact ⟨by first | rfl | (simp; done) | (simp [*]; done), by repeat (first | exact Drawn0.refl _ | apply Drawn0.step)⟩
     ·rw [if_neg c7] at H
      have c7b0 : (a1 == 2) = false := beq_eq_false_iff_ne.mpr c7
      have c7b1 : (a1 != 2) = true := bne_iff_ne.mpr c7
      by_cases c8 : a1 = 3
      ·rw [if_pos c8] at H
       have c8b0 : (a1 == 3) = true := beq_iff_eq.mpr c8
       have c8b1 : (a1 != 3) = false := bne_eq_false_iff_eq.mpr c8
       clear c8
       obtain rfl := Option.some.inj H
       go_wp2
       go_ret
       exact ⟨by first | rfl | (simp; done) | (simp [*]; done), by repeat (first | exact Drawn0.refl _ | apply Drawn0.step)⟩
      ·rw [if_neg c8] at H
       have c8b0 : (a1 == 3) = false := beq_eq_false_iff_ne.mpr c8
       have c8b1 : (a1 != 3) = true := bne_iff_ne.mpr c8
       obtain rfl := Option.some.inj H
       go_wp2
       go_ret
       exact ⟨by first | rfl | (simp; done) | (simp [*]; done), by repeat (first | exact Drawn0.refl _ | apply Drawn0.step)⟩

-- outside: xrCompare

/-! ### freshetref01_OfText: function 29 -/
def freshetref01_OfText.f (a0 : ByteArray) : Option (Int × Int × Int × ByteArray × Int) := if (a0.size : Int) > 4096 then (some (0, 0, 0, (⟨#[]⟩ : ByteArray), 12)) else (some (4, 0, 0, a0, 0))
set_option maxHeartbeats 8000000 in
set_option maxRecDepth 100000 in
theorem freshetref01_OfText.calls (a0 : ByteArray) (r1 : Int) (r2 : Int) (r3 : Int) (r4 : ByteArray) (r5 : Int) (w : World) (h : freshetref01_OfText.f a0 = some (r1, r2, r3, r4, r5)) :
  Calls Tryz.prog 29 #[.string a0] w fun e w' => e = .returned (.tuple #[.agg #[.int .i64 r1, .int .i64 r2, .int .u64 r3, .string r4], .int .i64 r5]) ∧ Below w.heap.size w w' := by
 have hu25 := Tryz.underlying25
 have HB := Aside0.mk (Below.refl w.heap.size w)
 have H : (if (a0.size : Int) > 4096 then (some (0, 0, 0, (⟨#[]⟩ : ByteArray), 12)) else (some (4, 0, 0, a0, 0))) = some (r1, r2, r3, r4, r5) := h
 clear h
 by_cases c2 : (a0.size : Int) > 4096
 ·rw [if_pos c2] at H
  have c2b0 : decide (4096 < (a0.size : Int)) = true := decide_eq_true c2
  have c2b1 : decide (4096 < a0.size) = true := decide_eq_true (by omega)
  clear c2
  simp only [Option.some.injEq, Prod.mk.injEq] at H
  obtain ⟨rfl, rfl, rfl, rfl, rfl⟩ := H
  go_enter Tryz.func29, Tryz.ntmps29
  go_wp2_with (first | ((with_reducible refine gate_dst (N := 2) rfl ?_); refine box_event ?hg (N := 2) ?hd (cs := #[.int .i64 0, .int .i64 0, .int .u64 0, .string (⟨#[]⟩ : ByteArray)]) (t := 25) ?hr ?_; (case hd => rfl); (case hg => rfl); (case hr => first | (go_simp; done) | (go_simp; rfl)); intro gb142 hg w3 hbox hb; have n0_ := Aside0.mk (below_step (by repeat (first | (with_reducible first | exact HB.out | apply below_alloc | apply pw_below_drewN | apply below_drew1) | exact HB.out)) hb); have n1_ := Aside0.mk (hbox); have n2_ := Aside0.mk ((by rw [hg]; exact (below_size (by repeat (first | (with_reducible first | exact HB.out | apply below_alloc | apply pw_below_drewN | apply below_drew1) | exact HB.out))) : w.heap.size ≤ gb142)); have n3_ := n2_; clear HB; have HB := n0_; have BK142 := n1_; have GW142 := n2_; have GE142 := n3_; clear n0_ n1_ n2_ n3_; clear hb hbox hg; have hcz4_0 : w3.cell? ⟨gb142, 0, none⟩ = some (.int .i64 0) := (blk_cell BK142.out 0).trans rfl; have hcz4_1 : w3.cell? ⟨gb142, 1, none⟩ = some (.int .i64 0) := (blk_cell BK142.out 1).trans rfl; have hcz4_2 : w3.cell? ⟨gb142, 2, none⟩ = some (.int .u64 0) := (blk_cell BK142.out 2).trans rfl; have hcz4_3 : w3.cell? ⟨gb142, 3, none⟩ = some (.string (⟨#[]⟩ : ByteArray)) := (blk_cell BK142.out 3).trans rfl; have hfz4_0 := blk_frozen BK142.out 0; have hfz4_1 := blk_frozen BK142.out 1; have hfz4_2 := blk_frozen BK142.out 2; have hfz4_3 := blk_frozen BK142.out 3))
  refine bodyPost_ret (results_ct rfl _ _ gb142 25 #[.int .i64 0, .int .i64 0, .int .u64 0, .string (⟨#[]⟩ : ByteArray)] (0, 0) _ rfl (by (with_reducible repeat (first | refine blk_drewN ?_ _ | refine blk_drew ?_ | refine blk_alloc ?_ _)); refine blk_put (cs := #[.int .i64 0, .int .i64 0, .int .u64 0, .string (⟨#[]⟩ : ByteArray)]) ?_ 3 _ rfl; refine blk_put (cs := #[.int .i64 0, .int .i64 0, .int .u64 0, .string (⟨#[]⟩ : ByteArray)]) ?_ 2 _ rfl; refine blk_put (cs := #[.int .i64 0, .int .i64 0, .int .u64 0, .string (⟨#[]⟩ : ByteArray)]) ?_ 1 _ rfl; refine blk_put (cs := #[.int .i64 0, .int .i64 0, .int .u64 0, .string (⟨#[]⟩ : ByteArray)]) ?_ 0 _ rfl; (with_reducible repeat (first | refine blk_drewN ?_ _ | refine blk_drew ?_ | refine blk_alloc ?_ _)); exact BK142.out) Tryz.underlying25 rfl (by kernel_rfl)) rfl ?_
  exact ⟨by first | rfl | (simp [errW_none, errW_some] <;> rfl) | (simp [*, errW_none, errW_some] <;> rfl), by repeat (first | (with_reducible first | exact HB.out | apply below_alloc | apply pw_below_drewN | apply below_drew1 | refine below_set ?_ GE142.out) | exact HB.out)⟩
 ·rw [if_neg c2] at H
  have c2b0 : decide (4096 < (a0.size : Int)) = false := decide_eq_false c2
  have c2b1 : decide (4096 < a0.size) = false := decide_eq_false (by omega)
  clear c2
  simp only [Option.some.injEq, Prod.mk.injEq] at H
  obtain ⟨rfl, rfl, rfl, rfl, rfl⟩ := H
  go_enter Tryz.func29, Tryz.ntmps29
  go_wp2_with (first | ((with_reducible refine gate_dst (N := 2) rfl ?_); refine box_event ?hg (N := 2) ?hd (cs := #[.int .i64 0, .int .i64 0, .int .u64 0, .string (⟨#[]⟩ : ByteArray)]) (t := 25) ?hr ?_; (case hd => rfl); (case hg => rfl); (case hr => first | (go_simp; done) | (go_simp; rfl)); intro gb142 hg w5 hbox hb; have n0_ := Aside0.mk (below_step (by repeat (first | (with_reducible first | exact HB.out | apply below_alloc | apply pw_below_drewN | apply below_drew1) | exact HB.out)) hb); have n1_ := Aside0.mk (hbox); have n2_ := Aside0.mk ((by rw [hg]; exact (below_size (by repeat (first | (with_reducible first | exact HB.out | apply below_alloc | apply pw_below_drewN | apply below_drew1) | exact HB.out))) : w.heap.size ≤ gb142)); have n3_ := n2_; clear HB; have HB := n0_; have BK142 := n1_; have GW142 := n2_; have GE142 := n3_; clear n0_ n1_ n2_ n3_; clear hb hbox hg; have hcz6_0 : w5.cell? ⟨gb142, 0, none⟩ = some (.int .i64 0) := (blk_cell BK142.out 0).trans rfl; have hcz6_1 : w5.cell? ⟨gb142, 1, none⟩ = some (.int .i64 0) := (blk_cell BK142.out 1).trans rfl; have hcz6_2 : w5.cell? ⟨gb142, 2, none⟩ = some (.int .u64 0) := (blk_cell BK142.out 2).trans rfl; have hcz6_3 : w5.cell? ⟨gb142, 3, none⟩ = some (.string (⟨#[]⟩ : ByteArray)) := (blk_cell BK142.out 3).trans rfl; have hfz6_0 := blk_frozen BK142.out 0; have hfz6_1 := blk_frozen BK142.out 1; have hfz6_2 := blk_frozen BK142.out 2; have hfz6_3 := blk_frozen BK142.out 3))
  refine bodyPost_ret (results_ct rfl _ _ gb142 25 #[.int .i64 4, .int .i64 0, .int .u64 0, .string a0] (0, 0) _ rfl (by (with_reducible repeat (first | refine blk_drewN ?_ _ | refine blk_drew ?_ | refine blk_alloc ?_ _)); refine blk_put (cs := #[.int .i64 4, .int .i64 0, .int .u64 0, .string (⟨#[]⟩ : ByteArray)]) ?_ 3 _ rfl; refine blk_put (cs := #[.int .i64 4, .int .i64 0, .int .u64 0, .string (⟨#[]⟩ : ByteArray)]) ?_ 2 _ rfl; refine blk_put (cs := #[.int .i64 4, .int .i64 0, .int .u64 0, .string (⟨#[]⟩ : ByteArray)]) ?_ 1 _ rfl; refine blk_put (cs := #[.int .i64 0, .int .i64 0, .int .u64 0, .string (⟨#[]⟩ : ByteArray)]) ?_ 0 _ rfl; (with_reducible repeat (first | refine blk_drewN ?_ _ | refine blk_drew ?_ | refine blk_alloc ?_ _)); exact BK142.out) Tryz.underlying25 rfl (by kernel_rfl)) rfl ?_
  exact ⟨by first | rfl | (simp [errW_none, errW_some] <;> rfl) | (simp [*, errW_none, errW_some] <;> rfl), by repeat (first | (with_reducible first | exact HB.out | apply below_alloc | apply pw_below_drewN | apply below_drew1 | refine below_set ?_ GE142.out) | exact HB.out)⟩

-- outside: xrFloats

end Go.Proofs.YtjnkkjeneomckaaGreatDoor.PRS
