/- Walks of functions of this translation, written by a program (wip/tools/xprint.py, out of the kit's print). -/
import Derived.Test.YthpkjkcfhipjhaaDoorPRWx0
import Derived.Test.YthpkjkcfhipjhaaDoorXR
import Derived.Test.YthpkjkcfhipjhaaDoorR11
namespace Go.Proofs.YthpkjkcfhipjhaaDoor.PRW
open Go.RowKit Go.Proofs.YthpkjkcfhipjhaaDoorW.PrintWords Go.Proofs.YthpkjkcfhipjhaaDoorW.PrintLast
set_option linter.unusedVariables false
set_option linter.unusedSimpArgs false

/-! ### freshetref02_text: function 49 -/
mutual
def freshetref02_text.l0 : Nat → ByteArray → Int → List Int → Option (Int × Int × Int × ByteArray × Int × Int)
  | 0, _, _, _ => none
  | k + 1, x0, x1, x7 => if x1 ≥ (x0.size : Int) then (freshetref02_text.j1 k x0 x1 x7 true) else (if 0 ≤ x1 then (if x1 < (x0.size : Int) then (if (bt x0 x1) = 0 then (freshetref02_text.j1 k x0 x1 x7 (decide ((wrap64 (x1 + 1)) ≥ (x0.size : Int)))) else (freshetref02_text.j1 k x0 x1 x7 false)) else (none)) else (none))
def freshetref02_text.j1 : Nat → ByteArray → Int → List Int → Bool → Option (Int × Int × Int × ByteArray × Int × Int)
  | 0, _, _, _, _ => none
  | k + 1, x0, x1, x7, x26 => if x26 = true then (some (0, 0, 0, (⟨#[]⟩ : ByteArray), 0, 3)) else (if 0 ≤ x1 then (if x1 < (x0.size : Int) then (if (bt x0 x1) = 0 then (if 0 ≤ (wrap64 (x1 + 1)) then (if (wrap64 (x1 + 1)) < (x0.size : Int) then (if (bt x0 (wrap64 (x1 + 1))) = 0 then (if (x7.length : Int) > 4096 then (some (0, 0, 0, (⟨#[]⟩ : ByteArray), 0, 12)) else (some (4, 0, 0, strOfNums x7, wrap64 (x1 + 2), 0))) else (if (bt x0 (wrap64 (x1 + 1))) = 255 then (if x7.length < 140737488355328 then (freshetref02_text.l0 k x0 (wrap64 (x1 + 2)) (x7 ++ [0])) else (none)) else (some (0, 0, 0, (⟨#[]⟩ : ByteArray), 0, 4)))) else (none)) else (none)) else (if x7.length < 140737488355328 then (freshetref02_text.l0 k x0 (wrap64 (x1 + 1)) (x7 ++ [bt x0 x1])) else (none))) else (none)) else (none))
end
def freshetref02_text.f (k : Nat) (a0 : ByteArray) (a1 : Int) : Option (Int × Int × Int × ByteArray × Int × Int) := freshetref02_text.l0 k a0 a1 (([] : List Int))
theorem freshetref02_text.mono_l : ∀ k, (∀ y0 y1 y2, LeO (freshetref02_text.l0 k y0 y1 y2) (freshetref02_text.l0 (k + 1) y0 y1 y2)) ∧ (∀ y0 y1 y2 y3, LeO (freshetref02_text.j1 k y0 y1 y2 y3) (freshetref02_text.j1 (k + 1) y0 y1 y2 y3))
  | 0 => ⟨fun _ _ _ r h => by simp [freshetref02_text.l0] at h, fun _ _ _ _ r h => by simp [freshetref02_text.j1] at h⟩
  | k + 1 => by
    obtain ⟨ih0, ih1⟩ := freshetref02_text.mono_l k
    refine ⟨?_, ?_⟩
    · intro y0 y1 y2
      unfold freshetref02_text.l0
      repeat' first
      | (with_reducible exact ih0 _ _ _)
      | (with_reducible exact ih1 _ _ _ _)
      | (with_reducible exact LeO.refl _)
      | (with_reducible exact LeO.none _)
      | (with_reducible refine LeO.ite ?_ ?_)
      | (with_reducible refine LeO.bind ?_ (fun _ => ?_))
      | exact ih0 _ _ _
      | exact ih1 _ _ _ _
      | exact LeO.none _
      | refine LeO.ite ?_ ?_
      | refine LeO.bind ?_ (fun _ => ?_)
    · intro y0 y1 y2 y3
      unfold freshetref02_text.j1
      repeat' first
      | (with_reducible exact ih0 _ _ _)
      | (with_reducible exact ih1 _ _ _ _)
      | (with_reducible exact LeO.refl _)
      | (with_reducible exact LeO.none _)
      | (with_reducible refine LeO.ite ?_ ?_)
      | (with_reducible refine LeO.bind ?_ (fun _ => ?_))
      | exact ih0 _ _ _
      | exact ih1 _ _ _ _
      | exact LeO.none _
      | refine LeO.ite ?_ ?_
      | refine LeO.bind ?_ (fun _ => ?_)
theorem freshetref02_text.mono : ∀ a0 a1 k, LeO (freshetref02_text.f k a0 a1) (freshetref02_text.f (k + 1) a0 a1) := by
  intro a0 a1 k
  obtain ⟨ih0, ih1⟩ := freshetref02_text.mono_l k
  unfold freshetref02_text.f
  repeat' first
      | (with_reducible exact ih0 _ _ _)
      | (with_reducible exact ih1 _ _ _ _)
      | (with_reducible exact LeO.refl _)
      | (with_reducible exact LeO.none _)
      | (with_reducible refine LeO.ite ?_ ?_)
      | (with_reducible refine LeO.bind ?_ (fun _ => ?_))
      | exact ih0 _ _ _
      | exact ih1 _ _ _ _
      | exact LeO.none _
      | refine LeO.ite ?_ ?_
      | refine LeO.bind ?_ (fun _ => ?_)
set_option maxHeartbeats 8000000 in
set_option maxRecDepth 100000 in
theorem freshetref02_text.calls (k : Nat) (a0 : ByteArray) (a1 : Int) (r1 : Int) (r2 : Int) (r3 : Int) (r4 : ByteArray) (r5 : Int) (r6 : Int) (w : World) (h : freshetref02_text.f k a0 a1 = some (r1, r2, r3, r4, r5, r6)) :
    Calls Tryd.prog 49 #[.string a0, .int .i64 a1] w fun e w' => e = .returned (.tuple #[.agg #[.int .i64 r1, .int .i64 r2, .int .u64 r3, .string r4], .int .i64 r5, .int .i64 r6]) ∧ Below w.heap.size w w' := by
  have hu56 := Tryd.underlying56
  have HB := Aside0.mk (Below.refl w.heap.size w)
  have H : (freshetref02_text.l0 k a0 a1 (([] : List Int))) = some (r1, r2, r3, r4, r5, r6) := h
  clear h
  obtain ⟨y121, hy121⟩ : ∃ y_ : List Int, y_ = (([] : List Int)) := ⟨_, rfl⟩
  replace H : (freshetref02_text.l0 k a0 a1 y121) = some (r1, r2, r3, r4, r5, r6) := by first | (rw [hy121]; with_reducible exact H) | (have H2_ := (Option.bind_some _ _).symm.trans H; rw [hy121]; with_reducible exact H2_) | (have H2_ := (Option.bind_some _ _).symm.trans H; with_reducible exact H2_) | with_reducible exact H | (rw [hy121]; exact H) | exact H
  have Ny121 := Aside0.mk hy121
  clear hy121
  have H' := Aside0.mk H
  clear H
  go_enter Tryd.func49, Tryd.ntmps49
  go_wp2_with (first | ((with_reducible refine gate_dst (N := 4) rfl ?_); (try (refine gate_guard (by rfl) ?_; dsimp only)); refine box_event ?hg (N := 4) ?hd (cs := #[.int .i64 0, .int .i64 0, .int .u64 0, .string (⟨#[]⟩ : ByteArray)]) (t := 56) ?hr ?_; (case hd => rfl); (case hg => rfl); (case hr => first | (go_simp; done) | (go_simp; rfl)); intro gb120 hg w3 hbox hb; have n0_ := Aside0.mk (below_step (by repeat (first | (with_reducible first | exact HB.out | apply below_alloc | apply pw_below_drewN | apply below_drew1) | exact HB.out)) hb); have n1_ := Aside0.mk (hbox); have n2_ := Aside0.mk ((by rw [hg]; exact (below_size (by repeat (first | (with_reducible first | exact HB.out | apply below_alloc | apply pw_below_drewN | apply below_drew1) | exact HB.out))) : w.heap.size ≤ gb120)); have n3_ := Aside0.mk ((by rw [hg]; exact (below_size (by repeat (first | (with_reducible first | exact HB.out | apply below_alloc | apply pw_below_drewN | apply below_drew1) | exact HB.out))) : w.heap.size ≤ gb120)); clear HB; have HB := n0_; have BK120 := n1_; have GW120 := n2_; have GE120 := n3_; clear n0_ n1_ n2_ n3_; clear hb hbox hg) | ((with_reducible refine gate_dst (N := 9) rfl ?_); (try (refine gate_guard (by rfl) ?_; dsimp only)); refine Kd.R_lit (Kd.int .u8) _ 5 ?hg (N := 9) ?hd (xs := ([] : List Int)) (inner := []) (ok := fun _ => True) (okp := fun _ => True) ?hr ?hp (fun _ hk => hk) trivial (Below.refl _ _) (Nat.le_refl _) (by simp) ?_; (case hd => rfl); (case hg => rfl); (case hr => first | (go_simp; done) | (go_simp; rfl)); (case hp => exact (Reps.none _ _)); intro v122 w4 ho5 hb hg_ hnew_; clear hg_ hnew_; (first | rw [← Ny121.out] at ho5 | (simp only [Int.reduceToNat] at ho5; rw [← Ny121.out] at ho5)); have n0_ := Aside0.mk (Kd.R_lower ho5 (below_size (by repeat (first | (with_reducible first | exact HB.out | apply below_alloc | apply pw_below_drewN | apply below_drew1 | refine below_set ?_ GE120.out) | exact HB.out)))); have n1_ := Aside0.mk (blk_below (g := gb120) (o := .cells #[.int .i64 0, .int .i64 0, .int .u64 0, .string (⟨#[]⟩ : ByteArray)] 56 (0, 0)) (by (with_reducible repeat (first | refine blk_drewN ?_ _ | refine blk_drew ?_ | refine blk_alloc ?_ _)); exact BK120.out) hb); have n2_ := Aside0.mk (below_step (by repeat (first | (with_reducible first | exact HB.out | apply below_alloc | apply pw_below_drewN | apply below_drew1 | refine below_set ?_ GE120.out) | exact HB.out)) hb); clear BK120; clear HB; have HO123 := n0_; have BK120 := n1_; have HB := n2_; clear n0_ n1_ n2_; clear hb ho5))
  go_loopg [1, 7] k (fun kq v1 v7 w' => ∃ (x1_1 : Int) (x7_1 : List Int) (x121000_1 : Int) (x121001_1 : Int) (x121002_1 : Int) (x121003_1 : ByteArray), v1 = .int .i64 x1_1 ∧ Aside0 (freshetref02_text.l0 kq a0 x1_1 x7_1 = some (r1, r2, r3, r4, r5, r6)) ∧ Aside0 (kq ≤ k) ∧ Aside0 (Kd.R (Kd.int .u8) 5 w' w.heap.size (fun _ => True) v7 x7_1) ∧ Aside0 (w'.heap[gb120]? = some (.cells #[.int .i64 x121000_1, .int .i64 x121001_1, .int .u64 x121002_1, .string x121003_1] 56 (0, 0))) ∧ Aside0 (Below w.heap.size w w'))
  case atStart => exact ⟨(a1), (y121), (0), (0), (0), ((⟨#[]⟩ : ByteArray)), (by first | rfl | (simp; done) | (simp [*]; done)), H', ⟨Nat.le_refl _⟩, ⟨by (with_reducible repeat (first | apply Kd.R_alloc | apply Kd.R_drewN | apply Kd.R_drew)); exact HO123.out⟩, ⟨by (with_reducible repeat (first | refine blk_drewN ?_ _ | refine blk_drew ?_ | refine blk_alloc ?_ _)); exact BK120.out⟩, ⟨by repeat (first | (with_reducible first | exact HB.out | apply below_alloc | apply pw_below_drewN | apply below_drew1 | refine below_set ?_ GE120.out) | exact HB.out)⟩⟩
  case round =>
    clear H'
    try clear p2
    try clear c4
    obtain ⟨x1_1, x7_1, x121000_1, x121001_1, x121002_1, x121003_1, rfl, HA, HK1, HO_7, BK120, HB⟩ := hrel
    cases gk with
    | zero => exact absurd HA.out (by simp [freshetref02_text.l0])
    | succ k1 =>
      have H := HA.out
      clear HA
      simp only [freshetref02_text.l0] at H
      have HC6 := Aside0.mk H
      clear H
      go_upto_region 2 with (fail)
      go_cut [26] (fun v26 wc => ∃ (kq : Nat) (x26_5 : Bool), v26 = .bool x26_5 ∧ Aside0 (freshetref02_text.j1 kq a0 x1_1 x7_1 x26_5 = some (r1, r2, r3, r4, r5, r6)) ∧ Aside0 (kq ≤ k1) ∧ Aside0 (Kd.R (Kd.int .u8) 5 wc w.heap.size (fun _ => True) u7 x7_1) ∧ Aside0 (wc.heap[gb120]? = some (.cells #[.int .i64 x121000_1, .int .i64 x121001_1, .int .u64 x121002_1, .string x121003_1] 56 (0, 0))) ∧ Aside0 (Below w.heap.size w wc))
      case first =>
        have H := HC6.out
        clear HC6
        by_cases c7 : x1_1 ≥ (a0.size : Int)
        · rw [if_pos c7] at H
          have c7b0 : decide ((a0.size : Int) ≤ x1_1) = true := decide_eq_true c7
          clear c7
          (first | rw [c7b0] | (simp only [i64_w, i32_w]; rw [c7b0]) | skip)
          have H' := Aside0.mk H
          clear H
          go_wp2
          go_meet
          case rel => exact ⟨_, (true), (by first | rfl | (simp; done) | (simp [*]; done)), H', ⟨by have := HK1.out; first | omega | exact Nat.le_refl _⟩, ⟨by (with_reducible repeat (first | apply Kd.R_alloc | apply Kd.R_drewN | apply Kd.R_drew)); exact HO_7.out⟩, ⟨by (with_reducible repeat (first | refine blk_drewN ?_ _ | refine blk_drew ?_ | refine blk_alloc ?_ _)); exact BK120.out⟩, ⟨by repeat (first | (with_reducible first | exact HB.out | apply below_alloc | apply pw_below_drewN | apply below_drew1 | refine below_set ?_ GE120.out) | exact HB.out)⟩⟩
        · rw [if_neg c7] at H
          have c7b0 : decide ((a0.size : Int) ≤ x1_1) = false := decide_eq_false c7
          clear c7
          (first | rw [c7b0] | (simp only [i64_w, i32_w]; rw [c7b0]) | skip)
          by_cases c8 : 0 ≤ x1_1
          · rw [if_pos c8] at H
            have c8b0 : decide (0 ≤ x1_1) = true := decide_eq_true c8
            clear c8
            by_cases c9 : x1_1 < (a0.size : Int)
            · rw [if_pos c9] at H
              have c9b0 : decide (x1_1 < (a0.size : Int)) = true := decide_eq_true c9
              clear c9
              by_cases c11 : (bt a0 x1_1) = 0
              · rw [if_pos c11] at H
                have c11b0 : ((bt a0 x1_1) == 0) = true := beq_iff_eq.mpr c11
                have c11b1 : ((bt a0 x1_1) != 0) = false := bne_eq_false_iff_eq.mpr c11
                clear c11
                have H' := Aside0.mk H
                clear H
                have p10 : 0 ≤ (x1_1 : Int) := of_decide_eq_true (by first | (with_reducible assumption) | assumption)
                have q10 : x1_1 < (a0.size : Int) := of_decide_eq_true (by first | (with_reducible assumption) | assumption)
                have hx10 := bt_at a0 x1_1
                replace p10 := eq_true p10
                replace q10 := eq_true q10
                go_wp2
                go_meet
                case rel => exact ⟨_, (decide ((wrap64 (x1_1 + 1)) ≥ (a0.size : Int))), (by first | rfl | (simp; done) | (simp [*]; done)), H', ⟨by have := HK1.out; first | omega | exact Nat.le_refl _⟩, ⟨by (with_reducible repeat (first | apply Kd.R_alloc | apply Kd.R_drewN | apply Kd.R_drew)); exact HO_7.out⟩, ⟨by (with_reducible repeat (first | refine blk_drewN ?_ _ | refine blk_drew ?_ | refine blk_alloc ?_ _)); exact BK120.out⟩, ⟨by repeat (first | (with_reducible first | exact HB.out | apply below_alloc | apply pw_below_drewN | apply below_drew1 | refine below_set ?_ GE120.out) | exact HB.out)⟩⟩
              · rw [if_neg c11] at H
                have c11b0 : ((bt a0 x1_1) == 0) = false := beq_eq_false_iff_ne.mpr c11
                have c11b1 : ((bt a0 x1_1) != 0) = true := bne_iff_ne.mpr c11
                have H' := Aside0.mk H
                clear H
                have p10 : 0 ≤ (x1_1 : Int) := of_decide_eq_true (by first | (with_reducible assumption) | assumption)
                have q10 : x1_1 < (a0.size : Int) := of_decide_eq_true (by first | (with_reducible assumption) | assumption)
                have hx10 := bt_at a0 x1_1
                replace p10 := eq_true p10
                replace q10 := eq_true q10
                go_wp2
                go_meet
                case rel => exact ⟨_, (false), (by first | rfl | (simp; done) | (simp [*]; done)), H', ⟨by have := HK1.out; first | omega | exact Nat.le_refl _⟩, ⟨by (with_reducible repeat (first | apply Kd.R_alloc | apply Kd.R_drewN | apply Kd.R_drew)); exact HO_7.out⟩, ⟨by (with_reducible repeat (first | refine blk_drewN ?_ _ | refine blk_drew ?_ | refine blk_alloc ?_ _)); exact BK120.out⟩, ⟨by repeat (first | (with_reducible first | exact HB.out | apply below_alloc | apply pw_below_drewN | apply below_drew1 | refine below_set ?_ GE120.out) | exact HB.out)⟩⟩
            · rw [if_neg c9] at H
              exact absurd H (by simp)
          · rw [if_neg c8] at H
            exact absurd H (by simp)
      case rest =>
        clear HC6
        try clear c1
        try clear p1
        try clear q1
        try clear hx1
        try clear p2
        try clear c4
        try clear p6
        try clear c7
        try clear c7b0
        try clear c8
        try clear c8b0
        try clear c9
        try clear c9b0
        try clear p10
        try clear q10
        try clear hx10
        try clear c11
        try clear c11b0
        try clear c11b1
        try clear p10
        try clear p2
        try clear q10
        obtain ⟨kq, x26_5, rfl, HA, HJ5, HO_7, BK120, HB⟩ := hcut
        cases kq with
        | zero => exact absurd HA.out (by simp [freshetref02_text.j1])
        | succ kj5 =>
          have H := HA.out
          clear HA
          simp only [freshetref02_text.j1] at H
          by_cases c12 : x26_5 = true
          · subst c12
            have H1 : (some (0, 0, 0, (⟨#[]⟩ : ByteArray), 0, 3)) = some (r1, r2, r3, r4, r5, r6) := by rw [if_pos rfl] at H; exact H
            clear H
            have H := H1
            clear H1
            simp only [Option.some.injEq, Prod.mk.injEq] at H
            obtain ⟨rfl, rfl, rfl, rfl, rfl, rfl⟩ := H
            have hcz13_0 : wc.cell? ⟨gb120, 0, none⟩ = some (.int .i64 x121000_1) := (blk_cell BK120.out 0).trans rfl
            have hcz13_1 : wc.cell? ⟨gb120, 1, none⟩ = some (.int .i64 x121001_1) := (blk_cell BK120.out 1).trans rfl
            have hcz13_2 : wc.cell? ⟨gb120, 2, none⟩ = some (.int .u64 x121002_1) := (blk_cell BK120.out 2).trans rfl
            have hcz13_3 : wc.cell? ⟨gb120, 3, none⟩ = some (.string x121003_1) := (blk_cell BK120.out 3).trans rfl
            have hfz13_0 := blk_frozen BK120.out 0
            have hfz13_1 := blk_frozen BK120.out 1
            have hfz13_2 := blk_frozen BK120.out 2
            have hfz13_3 := blk_frozen BK120.out 3
            go_wp2
            refine bodyPost_ret (results_ctt rfl _ _ gb120 56 #[.int .i64 0, .int .i64 0, .int .u64 0, .string (⟨#[]⟩ : ByteArray)] (0, 0) _ rfl (by (with_reducible repeat (first | refine blk_drewN ?_ _ | refine blk_drew ?_ | refine blk_alloc ?_ _)); refine blk_put (cs := #[.int .i64 0, .int .i64 0, .int .u64 0, .string x121003_1]) ?_ 3 _ rfl; (with_reducible repeat (first | refine blk_drewN ?_ _ | refine blk_drew ?_ | refine blk_alloc ?_ _)); refine blk_put (cs := #[.int .i64 0, .int .i64 0, .int .u64 x121002_1, .string x121003_1]) ?_ 2 _ rfl; (with_reducible repeat (first | refine blk_drewN ?_ _ | refine blk_drew ?_ | refine blk_alloc ?_ _)); refine blk_put (cs := #[.int .i64 0, .int .i64 x121001_1, .int .u64 x121002_1, .string x121003_1]) ?_ 1 _ rfl; (with_reducible repeat (first | refine blk_drewN ?_ _ | refine blk_drew ?_ | refine blk_alloc ?_ _)); refine blk_put (cs := #[.int .i64 x121000_1, .int .i64 x121001_1, .int .u64 x121002_1, .string x121003_1]) ?_ 0 _ rfl; (with_reducible repeat (first | refine blk_drewN ?_ _ | refine blk_drew ?_ | refine blk_alloc ?_ _)); exact BK120.out) Tryd.underlying56 rfl (by kernel_rfl)) rfl ?_
            exact ⟨by first | rfl | (simp [errW_none, errW_some] <;> rfl) | (simp [*, errW_none, errW_some] <;> rfl), by repeat (first | (with_reducible first | exact HB.out | apply below_alloc | apply pw_below_drewN | apply below_drew1 | refine below_set ?_ GE120.out) | exact HB.out)⟩
          · replace c12 := Bool.eq_false_iff.mpr c12
            subst c12
            have H1 : (if 0 ≤ x1_1 then (if x1_1 < (a0.size : Int) then (if (bt a0 x1_1) = 0 then (if 0 ≤ (wrap64 (x1_1 + 1)) then (if (wrap64 (x1_1 + 1)) < (a0.size : Int) then (if (bt a0 (wrap64 (x1_1 + 1))) = 0 then (if (x7_1.length : Int) > 4096 then (some (0, 0, 0, (⟨#[]⟩ : ByteArray), 0, 12)) else (some (4, 0, 0, strOfNums x7_1, wrap64 (x1_1 + 2), 0))) else (if (bt a0 (wrap64 (x1_1 + 1))) = 255 then (if x7_1.length < 140737488355328 then (freshetref02_text.l0 kj5 a0 (wrap64 (x1_1 + 2)) (x7_1 ++ [0])) else (none)) else (some (0, 0, 0, (⟨#[]⟩ : ByteArray), 0, 4)))) else (none)) else (none)) else (if x7_1.length < 140737488355328 then (freshetref02_text.l0 kj5 a0 (wrap64 (x1_1 + 1)) (x7_1 ++ [bt a0 x1_1])) else (none))) else (none)) else (none)) = some (r1, r2, r3, r4, r5, r6) := by rw [if_neg (show ¬ (false = true) by decide)] at H; exact H
            clear H
            have H := H1
            clear H1
            by_cases c14 : 0 ≤ x1_1
            · rw [if_pos c14] at H
              have c14b0 : decide (0 ≤ x1_1) = true := decide_eq_true c14
              clear c14
              by_cases c15 : x1_1 < (a0.size : Int)
              · rw [if_pos c15] at H
                have c15b0 : decide (x1_1 < (a0.size : Int)) = true := decide_eq_true c15
                clear c15
                by_cases c17 : (bt a0 x1_1) = 0
                · rw [if_pos c17] at H
                  have c17b0 : ((bt a0 x1_1) == 0) = true := beq_iff_eq.mpr c17
                  have c17b1 : ((bt a0 x1_1) != 0) = false := bne_eq_false_iff_eq.mpr c17
                  clear c17
                  obtain ⟨ji18, hji18⟩ : ∃ j_ : Int, (wrap64 (x1_1 + 1)) = j_ := ⟨_, rfl⟩
                  replace H : (if 0 ≤ (ji18) then (if (ji18) < (a0.size : Int) then (if (bt a0 (ji18)) = 0 then (if (x7_1.length : Int) > 4096 then (some (0, 0, 0, (⟨#[]⟩ : ByteArray), 0, 12)) else (some (4, 0, 0, strOfNums x7_1, wrap64 (x1_1 + 2), 0))) else (if (bt a0 (ji18)) = 255 then (if x7_1.length < 140737488355328 then (freshetref02_text.l0 kj5 a0 (wrap64 (x1_1 + 2)) (x7_1 ++ [0])) else (none)) else (some (0, 0, 0, (⟨#[]⟩ : ByteArray), 0, 4)))) else (none)) else (none)) = some (r1, r2, r3, r4, r5, r6) := by first | (rw [hji18] at H; exact H) | (simp only [hji18] at H ⊢; exact H)
                  have hji18w : (IntKind.i64.wrap (x1_1 + 1)) = ji18 := (i64_w _).trans hji18
                  by_cases c19 : 0 ≤ (ji18)
                  · rw [if_pos c19] at H
                    have c19b0 : decide (0 ≤ (ji18)) = true := decide_eq_true c19
                    clear c19
                    by_cases c20 : (ji18) < (a0.size : Int)
                    · rw [if_pos c20] at H
                      have c20b0 : decide ((ji18) < (a0.size : Int)) = true := decide_eq_true c20
                      clear c20
                      by_cases c22 : (bt a0 (ji18)) = 0
                      · rw [if_pos c22] at H
                        have c22b0 : ((bt a0 (ji18)) == 0) = true := beq_iff_eq.mpr c22
                        have c22b1 : ((bt a0 (ji18)) != 0) = false := bne_eq_false_iff_eq.mpr c22
                        clear c22
                        by_cases c23 : (x7_1.length : Int) > 4096
                        · rw [if_pos c23] at H
                          have c23b0 : decide (4096 < (x7_1.length : Int)) = true := decide_eq_true c23
                          have c23b1 : decide (4096 < x7_1.length) = true := decide_eq_true (by omega)
                          clear c23
                          simp only [Option.some.injEq, Prod.mk.injEq] at H
                          obtain ⟨rfl, rfl, rfl, rfl, rfl, rfl⟩ := H
                          have p16 : 0 ≤ (x1_1 : Int) := of_decide_eq_true (by first | (with_reducible assumption) | assumption)
                          have q16 : x1_1 < (a0.size : Int) := of_decide_eq_true (by first | (with_reducible assumption) | assumption)
                          have hx16 := bt_at a0 x1_1
                          replace p16 := eq_true p16
                          replace q16 := eq_true q16
                          have p21 : 0 ≤ ((ji18) : Int) := of_decide_eq_true (by first | (with_reducible assumption) | assumption)
                          have q21 : (ji18) < (a0.size : Int) := of_decide_eq_true (by first | (with_reducible assumption) | assumption)
                          have hx21 := bt_at a0 (ji18)
                          replace p21 := eq_true p21
                          replace q21 := eq_true q21
                          obtain ⟨Ao24, co24, eo24⟩ := Kd.R_slice HO_7.out
                          subst eo24
                          have hcz25_0 : wc.cell? ⟨gb120, 0, none⟩ = some (.int .i64 x121000_1) := (blk_cell BK120.out 0).trans rfl
                          have hcz25_1 : wc.cell? ⟨gb120, 1, none⟩ = some (.int .i64 x121001_1) := (blk_cell BK120.out 1).trans rfl
                          have hcz25_2 : wc.cell? ⟨gb120, 2, none⟩ = some (.int .u64 x121002_1) := (blk_cell BK120.out 2).trans rfl
                          have hcz25_3 : wc.cell? ⟨gb120, 3, none⟩ = some (.string x121003_1) := (blk_cell BK120.out 3).trans rfl
                          have hfz25_0 := blk_frozen BK120.out 0
                          have hfz25_1 := blk_frozen BK120.out 1
                          have hfz25_2 := blk_frozen BK120.out 2
                          have hfz25_3 := blk_frozen BK120.out 3
                          go_wp2
                          refine bodyPost_ret (results_ctt rfl _ _ gb120 56 #[.int .i64 0, .int .i64 0, .int .u64 0, .string (⟨#[]⟩ : ByteArray)] (0, 0) _ rfl (by (with_reducible repeat (first | refine blk_drewN ?_ _ | refine blk_drew ?_ | refine blk_alloc ?_ _)); refine blk_put (cs := #[.int .i64 0, .int .i64 0, .int .u64 0, .string x121003_1]) ?_ 3 _ rfl; (with_reducible repeat (first | refine blk_drewN ?_ _ | refine blk_drew ?_ | refine blk_alloc ?_ _)); refine blk_put (cs := #[.int .i64 0, .int .i64 0, .int .u64 x121002_1, .string x121003_1]) ?_ 2 _ rfl; (with_reducible repeat (first | refine blk_drewN ?_ _ | refine blk_drew ?_ | refine blk_alloc ?_ _)); refine blk_put (cs := #[.int .i64 0, .int .i64 x121001_1, .int .u64 x121002_1, .string x121003_1]) ?_ 1 _ rfl; (with_reducible repeat (first | refine blk_drewN ?_ _ | refine blk_drew ?_ | refine blk_alloc ?_ _)); refine blk_put (cs := #[.int .i64 x121000_1, .int .i64 x121001_1, .int .u64 x121002_1, .string x121003_1]) ?_ 0 _ rfl; (with_reducible repeat (first | refine blk_drewN ?_ _ | refine blk_drew ?_ | refine blk_alloc ?_ _)); exact BK120.out) Tryd.underlying56 rfl (by kernel_rfl)) rfl ?_
                          exact ⟨by first | rfl | (simp [errW_none, errW_some] <;> rfl) | (simp only [← hji18]; first | rfl | (simp [errW_none, errW_some] <;> rfl)) | (simp [*, errW_none, errW_some] <;> rfl), by repeat (first | (with_reducible first | exact HB.out | apply below_alloc | apply pw_below_drewN | apply below_drew1 | refine below_set ?_ GE120.out) | exact HB.out)⟩
                        · rw [if_neg c23] at H
                          have c23b0 : decide (4096 < (x7_1.length : Int)) = false := decide_eq_false c23
                          have c23b1 : decide (4096 < x7_1.length) = false := decide_eq_false (by omega)
                          clear c23
                          simp only [Option.some.injEq, Prod.mk.injEq] at H
                          obtain ⟨rfl, rfl, rfl, rfl, rfl, rfl⟩ := H
                          have p16 : 0 ≤ (x1_1 : Int) := of_decide_eq_true (by first | (with_reducible assumption) | assumption)
                          have q16 : x1_1 < (a0.size : Int) := of_decide_eq_true (by first | (with_reducible assumption) | assumption)
                          have hx16 := bt_at a0 x1_1
                          replace p16 := eq_true p16
                          replace q16 := eq_true q16
                          have p21 : 0 ≤ ((ji18) : Int) := of_decide_eq_true (by first | (with_reducible assumption) | assumption)
                          have q21 : (ji18) < (a0.size : Int) := of_decide_eq_true (by first | (with_reducible assumption) | assumption)
                          have hx21 := bt_at a0 (ji18)
                          replace p21 := eq_true p21
                          replace q21 := eq_true q21
                          obtain ⟨Ao26, co26, eo26⟩ := Kd.R_slice HO_7.out
                          subst eo26
                          have hcv27 := own_string (P := Tryd.prog) Tryd.underlying91 Tryd.underlying5 Tryd.underlying9 (Kd.own_of_R HO_7.out)
                          have hcz28_0 : wc.cell? ⟨gb120, 0, none⟩ = some (.int .i64 x121000_1) := (blk_cell BK120.out 0).trans rfl
                          have hcz28_1 : wc.cell? ⟨gb120, 1, none⟩ = some (.int .i64 x121001_1) := (blk_cell BK120.out 1).trans rfl
                          have hcz28_2 : wc.cell? ⟨gb120, 2, none⟩ = some (.int .u64 x121002_1) := (blk_cell BK120.out 2).trans rfl
                          have hcz28_3 : wc.cell? ⟨gb120, 3, none⟩ = some (.string x121003_1) := (blk_cell BK120.out 3).trans rfl
                          have hfz28_0 := blk_frozen BK120.out 0
                          have hfz28_1 := blk_frozen BK120.out 1
                          have hfz28_2 := blk_frozen BK120.out 2
                          have hfz28_3 := blk_frozen BK120.out 3
                          go_wp2
                          refine bodyPost_ret (results_ctt rfl _ _ gb120 56 #[.int .i64 4, .int .i64 0, .int .u64 0, .string (strOfNums x7_1)] (0, 0) _ rfl (by (with_reducible repeat (first | refine blk_drewN ?_ _ | refine blk_drew ?_ | refine blk_alloc ?_ _)); refine blk_put (cs := #[.int .i64 4, .int .i64 0, .int .u64 0, .string x121003_1]) ?_ 3 _ rfl; (with_reducible repeat (first | refine blk_drewN ?_ _ | refine blk_drew ?_ | refine blk_alloc ?_ _)); refine blk_put (cs := #[.int .i64 4, .int .i64 0, .int .u64 x121002_1, .string x121003_1]) ?_ 2 _ rfl; (with_reducible repeat (first | refine blk_drewN ?_ _ | refine blk_drew ?_ | refine blk_alloc ?_ _)); refine blk_put (cs := #[.int .i64 4, .int .i64 x121001_1, .int .u64 x121002_1, .string x121003_1]) ?_ 1 _ rfl; (with_reducible repeat (first | refine blk_drewN ?_ _ | refine blk_drew ?_ | refine blk_alloc ?_ _)); refine blk_put (cs := #[.int .i64 x121000_1, .int .i64 x121001_1, .int .u64 x121002_1, .string x121003_1]) ?_ 0 _ rfl; (with_reducible repeat (first | refine blk_drewN ?_ _ | refine blk_drew ?_ | refine blk_alloc ?_ _)); exact BK120.out) Tryd.underlying56 rfl (by kernel_rfl)) rfl ?_
                          exact ⟨by first | rfl | (simp [errW_none, errW_some] <;> rfl) | (simp only [← hji18]; first | rfl | (simp [errW_none, errW_some] <;> rfl)) | (simp [*, errW_none, errW_some] <;> rfl), by repeat (first | (with_reducible first | exact HB.out | apply below_alloc | apply pw_below_drewN | apply below_drew1 | refine below_set ?_ GE120.out) | exact HB.out)⟩
                      · rw [if_neg c22] at H
                        have c22b0 : ((bt a0 (ji18)) == 0) = false := beq_eq_false_iff_ne.mpr c22
                        have c22b1 : ((bt a0 (ji18)) != 0) = true := bne_iff_ne.mpr c22
                        by_cases c29 : (bt a0 (ji18)) = 255
                        · rw [if_pos c29] at H
                          have c29b0 : ((bt a0 (ji18)) == 255) = true := beq_iff_eq.mpr c29
                          have c29b1 : ((bt a0 (ji18)) != 255) = false := bne_eq_false_iff_eq.mpr c29
                          clear c29
                          by_cases c30 : x7_1.length < 140737488355328
                          · rw [if_pos c30] at H
                            have LMc30 := Aside0.mk c30
                            clear c30
                            obtain ⟨y127, hy127⟩ : ∃ y_ : List Int, y_ = (x7_1 ++ [0]) := ⟨_, rfl⟩
                            replace H : (freshetref02_text.l0 kj5 a0 (wrap64 (x1_1 + 2)) y127) = some (r1, r2, r3, r4, r5, r6) := by first | (rw [hy127]; with_reducible exact H) | (have H2_ := (Option.bind_some _ _).symm.trans H; rw [hy127]; with_reducible exact H2_) | (have H2_ := (Option.bind_some _ _).symm.trans H; with_reducible exact H2_) | with_reducible exact H | (rw [hy127]; exact H) | exact H
                            have Ny127 := Aside0.mk hy127
                            clear hy127
                            have H' := Aside0.mk H
                            clear H
                            have p16 : 0 ≤ (x1_1 : Int) := of_decide_eq_true (by first | (with_reducible assumption) | assumption)
                            have q16 : x1_1 < (a0.size : Int) := of_decide_eq_true (by first | (with_reducible assumption) | assumption)
                            have hx16 := bt_at a0 x1_1
                            replace p16 := eq_true p16
                            replace q16 := eq_true q16
                            have p21 : 0 ≤ ((ji18) : Int) := of_decide_eq_true (by first | (with_reducible assumption) | assumption)
                            have q21 : (ji18) < (a0.size : Int) := of_decide_eq_true (by first | (with_reducible assumption) | assumption)
                            have hx21 := bt_at a0 (ji18)
                            replace p21 := eq_true p21
                            replace q21 := eq_true q21
                            go_wp2_with (first | ((with_reducible refine gate_builtin (b := .append) (xs := #[.tmp 59, .tmp 60]) rfl ?_); (try (refine gate_guard (by rfl) ?_; dsimp only)); at_builtin; refine Kd.R_append (Kd.int .u8) (w0 := w) w.heap.size rfl (.tmp 59) (.tmp 60) 91 5 (.int .u8 0) 1 rfl Tryd.underlying91 info5 rfl (by decide) (by omega) u7 x7_1 0 [.int .u8 0] (fun _ => True) (fun _ => False) rfl rfl ?aP (fun _ hk => hk.elim) ?aF ?aO ?aB ?aS ?aL ?_; (case aP => exact rfl); (case aB => exact (by repeat (first | (with_reducible first | exact HB.out | apply below_alloc | apply pw_below_drewN | apply below_drew1 | refine below_set ?_ GE120.out) | exact HB.out))); (case aF => exact (fun _ _ => trivial)); (case aO => exact (by (with_reducible repeat (first | apply Kd.R_alloc | apply Kd.R_drewN | apply Kd.R_drew)); exact HO_7.out)); (case aS => exact (below_size (by repeat (first | (with_reducible first | exact HB.out | apply below_alloc | apply pw_below_drewN | apply below_drew1 | refine below_set ?_ GE120.out) | exact HB.out)))); (case aL => have := LMc30.out; omega); intro v128 w31 ho hb hg hat; rw [← Ny127.out] at ho; have n0_ := Aside0.mk (blk_grown (g := gb120) (o := .cells #[.int .i64 x121000_1, .int .i64 x121001_1, .int .u64 x121002_1, .string x121003_1] 56 (0, 0)) (by (with_reducible repeat (first | refine blk_drewN ?_ _ | refine blk_drew ?_ | refine blk_alloc ?_ _)); exact BK120.out) hg (Kd.R_ne HO_7.out BK120.out (by decide))); have n1_ := Aside0.mk (hb); have n2_ := Aside0.mk (ho); clear BK120; clear HB; clear HO_7; have BK120 := n0_; have HB := n1_; have HO129 := n2_; clear n0_ n1_ n2_; clear ho hb hg hat))
                            go_roundg kj5
                            case measure => have := HK1.out; have := HJ5.out; omega
                            case rel => exact ⟨(wrap64 (x1_1 + 2)), (y127), (x121000_1), (x121001_1), (x121002_1), (x121003_1), (by first | rfl | (simp; done) | (simp [*]; done)), H', ⟨by have := HK1.out; have := HJ5.out; omega⟩, ⟨by (with_reducible repeat (first | apply Kd.R_alloc | apply Kd.R_drewN | apply Kd.R_drew)); exact HO129.out⟩, ⟨by (with_reducible repeat (first | refine blk_drewN ?_ _ | refine blk_drew ?_ | refine blk_alloc ?_ _)); exact BK120.out⟩, ⟨by repeat (first | (with_reducible first | exact HB.out | apply below_alloc | apply pw_below_drewN | apply below_drew1 | refine below_set ?_ GE120.out) | exact HB.out)⟩⟩
                          · rw [if_neg c30] at H
                            exact absurd H (by simp)
                        · rw [if_neg c29] at H
                          have c29b0 : ((bt a0 (ji18)) == 255) = false := beq_eq_false_iff_ne.mpr c29
                          have c29b1 : ((bt a0 (ji18)) != 255) = true := bne_iff_ne.mpr c29
                          simp only [Option.some.injEq, Prod.mk.injEq] at H
                          obtain ⟨rfl, rfl, rfl, rfl, rfl, rfl⟩ := H
                          have p16 : 0 ≤ (x1_1 : Int) := of_decide_eq_true (by first | (with_reducible assumption) | assumption)
                          have q16 : x1_1 < (a0.size : Int) := of_decide_eq_true (by first | (with_reducible assumption) | assumption)
                          have hx16 := bt_at a0 x1_1
                          replace p16 := eq_true p16
                          replace q16 := eq_true q16
                          have p21 : 0 ≤ ((ji18) : Int) := of_decide_eq_true (by first | (with_reducible assumption) | assumption)
                          have q21 : (ji18) < (a0.size : Int) := of_decide_eq_true (by first | (with_reducible assumption) | assumption)
                          have hx21 := bt_at a0 (ji18)
                          replace p21 := eq_true p21
                          replace q21 := eq_true q21
                          have hcz32_0 : wc.cell? ⟨gb120, 0, none⟩ = some (.int .i64 x121000_1) := (blk_cell BK120.out 0).trans rfl
                          have hcz32_1 : wc.cell? ⟨gb120, 1, none⟩ = some (.int .i64 x121001_1) := (blk_cell BK120.out 1).trans rfl
                          have hcz32_2 : wc.cell? ⟨gb120, 2, none⟩ = some (.int .u64 x121002_1) := (blk_cell BK120.out 2).trans rfl
                          have hcz32_3 : wc.cell? ⟨gb120, 3, none⟩ = some (.string x121003_1) := (blk_cell BK120.out 3).trans rfl
                          have hfz32_0 := blk_frozen BK120.out 0
                          have hfz32_1 := blk_frozen BK120.out 1
                          have hfz32_2 := blk_frozen BK120.out 2
                          have hfz32_3 := blk_frozen BK120.out 3
                          go_wp2
                          refine bodyPost_ret (results_ctt rfl _ _ gb120 56 #[.int .i64 0, .int .i64 0, .int .u64 0, .string (⟨#[]⟩ : ByteArray)] (0, 0) _ rfl (by (with_reducible repeat (first | refine blk_drewN ?_ _ | refine blk_drew ?_ | refine blk_alloc ?_ _)); refine blk_put (cs := #[.int .i64 0, .int .i64 0, .int .u64 0, .string x121003_1]) ?_ 3 _ rfl; (with_reducible repeat (first | refine blk_drewN ?_ _ | refine blk_drew ?_ | refine blk_alloc ?_ _)); refine blk_put (cs := #[.int .i64 0, .int .i64 0, .int .u64 x121002_1, .string x121003_1]) ?_ 2 _ rfl; (with_reducible repeat (first | refine blk_drewN ?_ _ | refine blk_drew ?_ | refine blk_alloc ?_ _)); refine blk_put (cs := #[.int .i64 0, .int .i64 x121001_1, .int .u64 x121002_1, .string x121003_1]) ?_ 1 _ rfl; (with_reducible repeat (first | refine blk_drewN ?_ _ | refine blk_drew ?_ | refine blk_alloc ?_ _)); refine blk_put (cs := #[.int .i64 x121000_1, .int .i64 x121001_1, .int .u64 x121002_1, .string x121003_1]) ?_ 0 _ rfl; (with_reducible repeat (first | refine blk_drewN ?_ _ | refine blk_drew ?_ | refine blk_alloc ?_ _)); exact BK120.out) Tryd.underlying56 rfl (by kernel_rfl)) rfl ?_
                          exact ⟨by first | rfl | (simp [errW_none, errW_some] <;> rfl) | (simp only [← hji18]; first | rfl | (simp [errW_none, errW_some] <;> rfl)) | (simp [*, errW_none, errW_some] <;> rfl), by repeat (first | (with_reducible first | exact HB.out | apply below_alloc | apply pw_below_drewN | apply below_drew1 | refine below_set ?_ GE120.out) | exact HB.out)⟩
                    · rw [if_neg c20] at H
                      exact absurd H (by simp)
                  · rw [if_neg c19] at H
                    exact absurd H (by simp)
                · rw [if_neg c17] at H
                  have c17b0 : ((bt a0 x1_1) == 0) = false := beq_eq_false_iff_ne.mpr c17
                  have c17b1 : ((bt a0 x1_1) != 0) = true := bne_iff_ne.mpr c17
                  by_cases c34 : x7_1.length < 140737488355328
                  · rw [if_pos c34] at H
                    have LMc34 := Aside0.mk c34
                    clear c34
                    obtain ⟨y124, hy124⟩ : ∃ y_ : List Int, y_ = (x7_1 ++ [bt a0 x1_1]) := ⟨_, rfl⟩
                    replace H : (freshetref02_text.l0 kj5 a0 (wrap64 (x1_1 + 1)) y124) = some (r1, r2, r3, r4, r5, r6) := by first | (rw [hy124]; with_reducible exact H) | (have H2_ := (Option.bind_some _ _).symm.trans H; rw [hy124]; with_reducible exact H2_) | (have H2_ := (Option.bind_some _ _).symm.trans H; with_reducible exact H2_) | with_reducible exact H | (rw [hy124]; exact H) | exact H
                    have Ny124 := Aside0.mk hy124
                    clear hy124
                    have H' := Aside0.mk H
                    clear H
                    have p16 : 0 ≤ (x1_1 : Int) := of_decide_eq_true (by first | (with_reducible assumption) | assumption)
                    have q16 : x1_1 < (a0.size : Int) := of_decide_eq_true (by first | (with_reducible assumption) | assumption)
                    have hx16 := bt_at a0 x1_1
                    replace p16 := eq_true p16
                    replace q16 := eq_true q16
                    have p33 : 0 ≤ (x1_1 : Int) := of_decide_eq_true (by first | (with_reducible assumption) | assumption)
                    have q33 : x1_1 < (a0.size : Int) := of_decide_eq_true (by first | (with_reducible assumption) | assumption)
                    have hx33 := bt_at a0 x1_1
                    replace p33 := eq_true p33
                    replace q33 := eq_true q33
                    go_wp2_with (first | ((with_reducible refine gate_builtin (b := .append) (xs := #[.tmp 32, .tmp 36]) rfl ?_); (try (refine gate_guard (by rfl) ?_; dsimp only)); at_builtin; refine Kd.R_append (Kd.int .u8) (w0 := w) w.heap.size rfl (.tmp 32) (.tmp 36) 91 5 (.int .u8 0) 1 rfl Tryd.underlying91 info5 rfl (by decide) (by omega) u7 x7_1 (bt a0 x1_1) [.int .u8 (bt a0 x1_1)] (fun _ => True) (fun _ => False) rfl rfl ?aP (fun _ hk => hk.elim) ?aF ?aO ?aB ?aS ?aL ?_; (case aP => exact rfl); (case aB => exact (by repeat (first | (with_reducible first | exact HB.out | apply below_alloc | apply pw_below_drewN | apply below_drew1 | refine below_set ?_ GE120.out) | exact HB.out))); (case aF => exact (fun _ _ => trivial)); (case aO => exact (by (with_reducible repeat (first | apply Kd.R_alloc | apply Kd.R_drewN | apply Kd.R_drew)); exact HO_7.out)); (case aS => exact (below_size (by repeat (first | (with_reducible first | exact HB.out | apply below_alloc | apply pw_below_drewN | apply below_drew1 | refine below_set ?_ GE120.out) | exact HB.out)))); (case aL => have := LMc34.out; omega); intro v125 w35 ho hb hg hat; rw [← Ny124.out] at ho; have n0_ := Aside0.mk (blk_grown (g := gb120) (o := .cells #[.int .i64 x121000_1, .int .i64 x121001_1, .int .u64 x121002_1, .string x121003_1] 56 (0, 0)) (by (with_reducible repeat (first | refine blk_drewN ?_ _ | refine blk_drew ?_ | refine blk_alloc ?_ _)); exact BK120.out) hg (Kd.R_ne HO_7.out BK120.out (by decide))); have n1_ := Aside0.mk (hb); have n2_ := Aside0.mk (ho); clear BK120; clear HB; clear HO_7; have BK120 := n0_; have HB := n1_; have HO126 := n2_; clear n0_ n1_ n2_; clear ho hb hg hat))
                    go_roundg kj5
                    case measure => have := HK1.out; have := HJ5.out; omega
                    case rel => exact ⟨(wrap64 (x1_1 + 1)), (y124), (x121000_1), (x121001_1), (x121002_1), (x121003_1), (by first | rfl | (simp; done) | (simp [*]; done)), H', ⟨by have := HK1.out; have := HJ5.out; omega⟩, ⟨by (with_reducible repeat (first | apply Kd.R_alloc | apply Kd.R_drewN | apply Kd.R_drew)); exact HO126.out⟩, ⟨by (with_reducible repeat (first | refine blk_drewN ?_ _ | refine blk_drew ?_ | refine blk_alloc ?_ _)); exact BK120.out⟩, ⟨by repeat (first | (with_reducible first | exact HB.out | apply below_alloc | apply pw_below_drewN | apply below_drew1 | refine below_set ?_ GE120.out) | exact HB.out)⟩⟩
                  · rw [if_neg c34] at H
                    exact absurd H (by simp)
              · rw [if_neg c15] at H
                exact absurd H (by simp)
            · rw [if_neg c14] at H
              exact absurd H (by simp)

-- outside: xrNumber

/-! ### freshetref02_Decode: function 25 -/
def freshetref02_Decode.l0 : Nat → ByteArray → List (S56) → Int → Option ((List (S56)) × Int)
  | 0, _, _, _ => none
  | k + 1, x0, x4, x5 => if x5 < (x0.size : Int) then (if (x4.length : Int) ≥ 1024 then (some (([] : List (S56)), 1)) else (if 0 ≤ x5 then (if (wrap64 (bt x0 x5)) > 4 then (some (([] : List (S56)), 4)) else (if (wrap64 (bt x0 x5)) = 4 then ((freshetref02_text.f k x0 (wrap64 (x5 + 1))).bind fun bt134 => (if bt134.2.2.2.2.2 = 0 then (if x4.length < 3518437208883 then (freshetref02_Decode.l0 k x0 (x4 ++ [(⟨bt134.1, bt134.2.1, bt134.2.2.1, bt134.2.2.2.1⟩ : S56)]) bt134.2.2.2.2.1) else (none)) else (some (([] : List (S56)), bt134.2.2.2.2.2)))) else (if (wrap64 (bt x0 x5)) > 0 then (if (wrap64 ((x0.size : Int) - (wrap64 (x5 + 1)))) < 8 then (some (([] : List (S56)), 3)) else (if 0 ≤ (wrap64 (x5 + 1)) then (if (wrap64 (x5 + 1)) ≤ (wrap64 ((wrap64 (x5 + 1)) + 8)) then (if (wrap64 ((wrap64 (x5 + 1)) + 8)) ≤ (x0.size : Int) then ((xrNumber.f (wrap64 (bt x0 x5)) (x0.extract ((wrap64 (x5 + 1)) : Int).toNat ((wrap64 ((wrap64 (x5 + 1)) + 8)) : Int).toNat)).bind fun bt144 => (if bt144.2.2.2.2 = 0 then (if x4.length < 3518437208883 then (freshetref02_Decode.l0 k x0 (x4 ++ [(⟨bt144.1, bt144.2.1, bt144.2.2.1, bt144.2.2.2.1⟩ : S56)]) (wrap64 ((wrap64 (x5 + 1)) + 8))) else (none)) else (some (([] : List (S56)), bt144.2.2.2.2)))) else (none)) else (none)) else (none))) else (if x4.length < 3518437208883 then (freshetref02_Decode.l0 k x0 (x4 ++ [(⟨0, 0, 0, (⟨#[]⟩ : ByteArray)⟩ : S56)]) (wrap64 (x5 + 1))) else (none))))) else (none))) else (some (x4, 0))
def freshetref02_Decode.f (k : Nat) (a0 : ByteArray) : Option ((List (S56)) × Int) := freshetref02_Decode.l0 k a0 (([] : List (S56))) 0
theorem freshetref02_Decode.mono_l : ∀ k, (∀ y0 y1 y2, LeO (freshetref02_Decode.l0 k y0 y1 y2) (freshetref02_Decode.l0 (k + 1) y0 y1 y2))
  | 0 => fun _ _ _ r h => by simp [freshetref02_Decode.l0] at h
  | k + 1 => by
    have ih0 := freshetref02_Decode.mono_l k
    · intro y0 y1 y2
      unfold freshetref02_Decode.l0
      repeat' first
      | (with_reducible exact ih0 _ _ _)
      | (with_reducible exact freshetref02_text.mono _ _ _)
      | (with_reducible exact LeO.refl _)
      | (with_reducible exact LeO.none _)
      | (with_reducible refine LeO.ite ?_ ?_)
      | (with_reducible refine LeO.bind ?_ (fun _ => ?_))
      | exact ih0 _ _ _
      | exact freshetref02_text.mono _ _ _
      | exact LeO.none _
      | refine LeO.ite ?_ ?_
      | refine LeO.bind ?_ (fun _ => ?_)
theorem freshetref02_Decode.mono : ∀ a0 k, LeO (freshetref02_Decode.f k a0) (freshetref02_Decode.f (k + 1) a0) := by
  intro a0 k
  have ih0 := freshetref02_Decode.mono_l k
  unfold freshetref02_Decode.f
  repeat' first
      | (with_reducible exact ih0 _ _ _)
      | (with_reducible exact freshetref02_text.mono _ _ _)
      | (with_reducible exact LeO.refl _)
      | (with_reducible exact LeO.none _)
      | (with_reducible refine LeO.ite ?_ ?_)
      | (with_reducible refine LeO.bind ?_ (fun _ => ?_))
      | exact ih0 _ _ _
      | exact freshetref02_text.mono _ _ _
      | exact LeO.none _
      | refine LeO.ite ?_ ?_
      | refine LeO.bind ?_ (fun _ => ?_)
set_option maxHeartbeats 8000000 in
set_option maxRecDepth 100000 in
theorem freshetref02_Decode.calls (k : Nat) (a0 : ByteArray) (r1 : List (S56)) (r2 : Int) (w : World) (h : freshetref02_Decode.f k a0 = some (r1, r2)) :
    Calls Tryd.prog 25 #[.string a0] w fun e w' => ∃ v0_ : Value, e = .returned (.tuple #[v0_, .int .i64 r2]) ∧ Kd.R k56 56 w' w.heap.size (fun _ => True) v0_ r1 ∧ Below w.heap.size w w' := by
  have hu56 := Tryd.underlying56
  have HB := Aside0.mk (Below.refl w.heap.size w)
  have H : (freshetref02_Decode.l0 k a0 (([] : List (S56))) 0) = some (r1, r2) := h
  clear h
  obtain ⟨y130, hy130⟩ : ∃ y_ : List (S56), y_ = (([] : List (S56))) := ⟨_, rfl⟩
  replace H : (freshetref02_Decode.l0 k a0 y130 0) = some (r1, r2) := by first | (rw [hy130]; with_reducible exact H) | (have H2_ := (Option.bind_some _ _).symm.trans H; rw [hy130]; with_reducible exact H2_) | (have H2_ := (Option.bind_some _ _).symm.trans H; with_reducible exact H2_) | with_reducible exact H | (rw [hy130]; exact H) | exact H
  have Ny130 := Aside0.mk hy130
  clear hy130
  have H' := Aside0.mk H
  clear H
  go_enter Tryd.func25, Tryd.ntmps25
  go_wp2_with (first | ((with_reducible refine gate_dst (N := 13) rfl ?_); refine Kd.R_lit k56 _ 56 ?hg (N := 13) ?hd (xs := ([] : List (S56))) (inner := []) (ok := fun _ => True) (okp := fun _ => True) ?hr ?hp (fun _ hk => hk) trivial (Below.refl _ _) (Nat.le_refl _) (by simp) ?_; (case hd => rfl); (case hg => rfl); (case hr => first | (go_simp; done) | (go_simp; rfl)); (case hp => exact (Reps.none _ _)); intro v131 w2 ho3 hb hg_ hnew_; clear hg_ hnew_; (first | rw [← Ny130.out] at ho3 | (simp only [Int.reduceToNat] at ho3; rw [← Ny130.out] at ho3)); have n0_ := Aside0.mk (Kd.R_lower ho3 (below_size (by repeat (first | (with_reducible first | exact HB.out | apply below_alloc | apply pw_below_drewN | apply below_drew1) | exact HB.out)))); have n1_ := Aside0.mk (below_step (by repeat (first | (with_reducible first | exact HB.out | apply below_alloc | apply pw_below_drewN | apply below_drew1) | exact HB.out)) hb); clear HB; have HO132 := n0_; have HB := n1_; clear n0_ n1_; clear hb ho3))
  go_loopg [4, 5] k (fun kq v4 v5 w' => ∃ (x4_1 : List (S56)) (x5_1 : Int), v5 = .int .i64 x5_1 ∧ Aside0 (freshetref02_Decode.l0 kq a0 x4_1 x5_1 = some (r1, r2)) ∧ Aside0 (kq ≤ k) ∧ Aside0 (Kd.R k56 56 w' w.heap.size (fun _ => True) v4 x4_1) ∧ Aside0 (Below w.heap.size w w'))
  case atStart => exact ⟨(y130), (0), (by first | rfl | (simp; done) | (simp [*]; done)), H', ⟨Nat.le_refl _⟩, ⟨by (with_reducible repeat (first | apply Kd.R_alloc | apply Kd.R_drewN | apply Kd.R_drew)); exact HO132.out⟩, ⟨by repeat (first | (with_reducible first | exact HB.out | apply below_alloc | apply pw_below_drewN | apply below_drew1) | exact HB.out)⟩⟩
  case round =>
    clear H'
    try clear c2
    try clear p2
    obtain ⟨x4_1, x5_1, rfl, HA, HK1, HO_4, HB⟩ := hrel
    cases gk with
    | zero => exact absurd HA.out (by simp [freshetref02_Decode.l0])
    | succ k1 =>
      have H := HA.out
      clear HA
      simp only [freshetref02_Decode.l0] at H
      by_cases c4 : x5_1 < (a0.size : Int)
      · rw [if_pos c4] at H
        have c4b0 : decide (x5_1 < (a0.size : Int)) = true := decide_eq_true c4
        clear c4
        by_cases c5 : (x4_1.length : Int) ≥ 1024
        · rw [if_pos c5] at H
          have c5b0 : decide (1024 ≤ (x4_1.length : Int)) = true := decide_eq_true c5
          have c5b1 : decide (1024 ≤ x4_1.length) = true := decide_eq_true (by omega)
          clear c5
          simp only [Option.some.injEq, Prod.mk.injEq] at H
          obtain ⟨rfl, rfl⟩ := H
          obtain ⟨Ao6, co6, eo6⟩ := Kd.R_slice HO_4.out
          subst eo6
          go_wp2
          go_ret2
          exact ⟨_, by first | rfl | (simp [errW_none, errW_some] <;> rfl) | (simp [*, errW_none, errW_some] <;> rfl), by first | exact Kd.R_nil _ _ _ _ _ | exact Kd.N_nil _ _ _ _ _ | exact Kd.V_nil _ _ _ _ _ | exact Kd.Q_nil _ _ _ _ _ | exact Kd.S_nil _ _ _ _ _, by repeat (first | (with_reducible first | exact HB.out | apply below_alloc | apply pw_below_drewN | apply below_drew1) | exact HB.out)⟩
        · rw [if_neg c5] at H
          have c5b0 : decide (1024 ≤ (x4_1.length : Int)) = false := decide_eq_false c5
          have c5b1 : decide (1024 ≤ x4_1.length) = false := decide_eq_false (by omega)
          clear c5
          by_cases c7 : 0 ≤ x5_1
          · rw [if_pos c7] at H
            have c7b0 : decide (0 ≤ x5_1) = true := decide_eq_true c7
            clear c7
            by_cases c9 : (wrap64 (bt a0 x5_1)) > 4
            · rw [if_pos c9] at H
              have c9b0 : decide (4 < (wrap64 (bt a0 x5_1))) = true := decide_eq_true c9
              clear c9
              simp only [Option.some.injEq, Prod.mk.injEq] at H
              obtain ⟨rfl, rfl⟩ := H
              obtain ⟨Ao10, co10, eo10⟩ := Kd.R_slice HO_4.out
              subst eo10
              have p8 : 0 ≤ (x5_1 : Int) := of_decide_eq_true (by first | (with_reducible assumption) | assumption)
              have q8 : x5_1 < (a0.size : Int) := of_decide_eq_true (by first | (with_reducible assumption) | assumption)
              have hx8 := bt_at a0 x5_1
              replace p8 := eq_true p8
              replace q8 := eq_true q8
              go_wp2
              go_ret2
              exact ⟨_, by first | rfl | (simp [errW_none, errW_some] <;> rfl) | (simp [*, errW_none, errW_some] <;> rfl), by first | exact Kd.R_nil _ _ _ _ _ | exact Kd.N_nil _ _ _ _ _ | exact Kd.V_nil _ _ _ _ _ | exact Kd.Q_nil _ _ _ _ _ | exact Kd.S_nil _ _ _ _ _, by repeat (first | (with_reducible first | exact HB.out | apply below_alloc | apply pw_below_drewN | apply below_drew1) | exact HB.out)⟩
            · rw [if_neg c9] at H
              have c9b0 : decide (4 < (wrap64 (bt a0 x5_1))) = false := decide_eq_false c9
              clear c9
              by_cases c11 : (wrap64 (bt a0 x5_1)) = 4
              · rw [if_pos c11] at H
                have c11b0 : ((wrap64 (bt a0 x5_1)) == 4) = true := beq_iff_eq.mpr c11
                have c11b1 : ((wrap64 (bt a0 x5_1)) != 4) = false := bne_eq_false_iff_eq.mpr c11
                clear c11
                replace H := Option.bind_eq_some_iff.mp H
                obtain ⟨⟨t134, t135, t136, t137, t138, t139⟩, A120, H⟩ := H
                replace H : (if t139 = 0 then (if x4_1.length < 3518437208883 then (freshetref02_Decode.l0 k1 a0 (x4_1 ++ [(⟨t134, t135, t136, t137⟩ : S56)]) t138) else (none)) else (some (([] : List (S56)), t139))) = some (r1, r2) := H
                have A12 := Aside0.mk A120
                clear A120
                by_cases c13 : t139 = 0
                · rw [if_pos c13] at H
                  have c13b0 : (t139 == 0) = true := beq_iff_eq.mpr c13
                  have c13b1 : (t139 != 0) = false := bne_eq_false_iff_eq.mpr c13
                  clear c13
                  by_cases c14 : x4_1.length < 3518437208883
                  · rw [if_pos c14] at H
                    have LMc14 := Aside0.mk c14
                    clear c14
                    obtain ⟨y141, hy141⟩ : ∃ y_ : List (S56), y_ = (x4_1 ++ [(⟨t134, t135, t136, t137⟩ : S56)]) := ⟨_, rfl⟩
                    replace H : (freshetref02_Decode.l0 k1 a0 y141 t138) = some (r1, r2) := by first | (rw [hy141]; with_reducible exact H) | (have H2_ := (Option.bind_some _ _).symm.trans H; rw [hy141]; with_reducible exact H2_) | (have H2_ := (Option.bind_some _ _).symm.trans H; with_reducible exact H2_) | with_reducible exact H | (rw [hy141]; exact H) | exact H
                    have Ny141 := Aside0.mk hy141
                    clear hy141
                    have H' := Aside0.mk H
                    clear H
                    obtain ⟨Ao15, co15, eo15⟩ := Kd.R_slice HO_4.out
                    subst eo15
                    have p8 : 0 ≤ (x5_1 : Int) := of_decide_eq_true (by first | (with_reducible assumption) | assumption)
                    have q8 : x5_1 < (a0.size : Int) := of_decide_eq_true (by first | (with_reducible assumption) | assumption)
                    have hx8 := bt_at a0 x5_1
                    replace p8 := eq_true p8
                    replace q8 := eq_true q8
                    go_wp2_with (first | ((with_reducible refine gate_dst (N := 7) rfl ?_); refine box_event ?hg (N := 7) ?hd (cs := #[.int .i64 0, .int .i64 0, .int .u64 0, .string (⟨#[]⟩ : ByteArray)]) (t := 56) ?hr ?_; (case hd => rfl); (case hg => rfl); (case hr => first | (go_simp; done) | (go_simp; rfl)); intro gb133 hg w16 hbox hb; have n0_ := Aside0.mk (Kd.R_below (Kd.R_elderB (by (with_reducible repeat (first | apply Kd.R_alloc | apply Kd.R_drewN | apply Kd.R_drew)); exact HO_4.out) gb133 (Nat.le_of_eq hg.symm)) hb); have n1_ := Aside0.mk (below_step (by repeat (first | (with_reducible first | exact HB.out | apply below_alloc | apply pw_below_drewN | apply below_drew1) | exact HB.out)) hb); have n2_ := Aside0.mk (hbox); have n3_ := Aside0.mk ((by rw [hg]; exact (below_size (by repeat (first | (with_reducible first | exact HB.out | apply below_alloc | apply pw_below_drewN | apply below_drew1) | exact HB.out))) : w.heap.size ≤ gb133)); have n4_ := Aside0.mk ((by rw [hg]; exact (below_size (by repeat (first | (with_reducible first | exact HB.out | apply below_alloc | apply pw_below_drewN | apply below_drew1) | exact HB.out))) : w.heap.size ≤ gb133)); clear HO_4; clear HB; have HO_4 := n0_; have HB := n1_; have BK133 := n2_; have GW133 := n3_; have GE133 := n4_; clear n0_ n1_ n2_ n3_ n4_; clear hb hbox hg; have hcz17_0 : w16.cell? ⟨gb133, 0, none⟩ = some (.int .i64 0) := (blk_cell BK133.out 0).trans rfl; have hcz17_1 : w16.cell? ⟨gb133, 1, none⟩ = some (.int .i64 0) := (blk_cell BK133.out 1).trans rfl; have hcz17_2 : w16.cell? ⟨gb133, 2, none⟩ = some (.int .u64 0) := (blk_cell BK133.out 2).trans rfl; have hcz17_3 : w16.cell? ⟨gb133, 3, none⟩ = some (.string (⟨#[]⟩ : ByteArray)) := (blk_cell BK133.out 3).trans rfl; have hfz17_0 := blk_frozen BK133.out 0; have hfz17_1 := blk_frozen BK133.out 1; have hfz17_2 := blk_frozen BK133.out 2; have hfz17_3 := blk_frozen BK133.out 3) | ((with_reducible refine gate_callee (f := 49) rfl ?_); refine goesL_ (some 35) rfl rfl Tryd.func49 (by kernel_rfl) rfl #[.string a0, .int .i64 (wrap64 (x5_1 + 1))] rfl (by (try simp only [List.map_toArray, List.map_cons, List.map_nil]); first | done | rfl | (simp only [List.length_drop, List.length_take]; rfl)) ?_; (with_reducible refine (freshetref02_text.calls k1 a0 (wrap64 (x5_1 + 1)) t134 t135 t136 t137 t138 t139 _ A12.out).mono ?_); rintro e w18 ⟨rfl, hb⟩; refine ⟨_, rfl, ?_⟩; have n0_ := Aside0.mk (Kd.R_below (by (with_reducible repeat (first | apply Kd.R_alloc | apply Kd.R_drewN | apply Kd.R_drew)); exact (Kd.R_mono (Kd.R_far (p := ⟨gb133, 3, none⟩) (Kd.R_far (p := ⟨gb133, 2, none⟩) (Kd.R_far (p := ⟨gb133, 1, none⟩) (Kd.R_far (p := ⟨gb133, 0, none⟩) (Kd.R_mono HO_4.out (fun k_ hk => (⟨hk, hk.2⟩ : _ ∧ k_ ≠ gb133))) (fun _ hk => hk.2) (.int .i64 0)) (fun _ hk => hk.2) (.int .i64 0)) (fun _ hk => hk.2) (.int .u64 0)) (fun _ hk => hk.2) (.string (⟨#[]⟩ : ByteArray))) (fun _ h_ => h_.1))) hb); have n1_ := Aside0.mk (blk_below (g := gb133) (o := .cells #[.int .i64 0, .int .i64 0, .int .u64 0, .string (⟨#[]⟩ : ByteArray)] 56 (0, 0)) (by (with_reducible repeat (first | refine blk_drewN ?_ _ | refine blk_drew ?_ | refine blk_alloc ?_ _)); refine blk_put (cs := #[.int .i64 0, .int .i64 0, .int .u64 0, .string (⟨#[]⟩ : ByteArray)]) ?_ 3 _ rfl; (with_reducible repeat (first | refine blk_drewN ?_ _ | refine blk_drew ?_ | refine blk_alloc ?_ _)); refine blk_put (cs := #[.int .i64 0, .int .i64 0, .int .u64 0, .string (⟨#[]⟩ : ByteArray)]) ?_ 2 _ rfl; (with_reducible repeat (first | refine blk_drewN ?_ _ | refine blk_drew ?_ | refine blk_alloc ?_ _)); refine blk_put (cs := #[.int .i64 0, .int .i64 0, .int .u64 0, .string (⟨#[]⟩ : ByteArray)]) ?_ 1 _ rfl; (with_reducible repeat (first | refine blk_drewN ?_ _ | refine blk_drew ?_ | refine blk_alloc ?_ _)); refine blk_put (cs := #[.int .i64 0, .int .i64 0, .int .u64 0, .string (⟨#[]⟩ : ByteArray)]) ?_ 0 _ rfl; (with_reducible repeat (first | refine blk_drewN ?_ _ | refine blk_drew ?_ | refine blk_alloc ?_ _)); exact BK133.out) hb); have n2_ := Aside0.mk (below_step (by repeat (first | (with_reducible first | exact HB.out | apply below_alloc | apply pw_below_drewN | apply below_drew1 | refine below_set ?_ GE133.out) | exact HB.out)) hb); clear HO_4; clear BK133; clear HB; have HO_4 := n0_; have BK133 := n1_; have HB := n2_; clear n0_ n1_ n2_; (try clear hb); (try clear hb2); (try clear hk); (try clear hi)) | ((with_reducible refine gate_dst (N := 8) rfl ?_); refine box_event ?hg (N := 8) ?hd (cs := #[.int .i64 0, .int .i64 0, .int .u64 0, .string (⟨#[]⟩ : ByteArray)]) (t := 56) ?hr ?_; (case hd => rfl); (case hg => rfl); (case hr => first | (go_simp; done) | (go_simp; rfl)); intro gb140 hg w19 hbox hb; have n0_ := Aside0.mk (Kd.R_below (Kd.R_elderB (by (with_reducible repeat (first | apply Kd.R_alloc | apply Kd.R_drewN | apply Kd.R_drew)); exact HO_4.out) gb140 (Nat.le_of_eq hg.symm)) hb); have n1_ := Aside0.mk (blk_below (g := gb133) (o := .cells #[.int .i64 0, .int .i64 0, .int .u64 0, .string (⟨#[]⟩ : ByteArray)] 56 (0, 0)) (by (with_reducible repeat (first | refine blk_drewN ?_ _ | refine blk_drew ?_ | refine blk_alloc ?_ _)); exact BK133.out) hb); have n2_ := Aside0.mk (below_step (by repeat (first | (with_reducible first | exact HB.out | apply below_alloc | apply pw_below_drewN | apply below_drew1 | refine below_set ?_ GE133.out) | exact HB.out)) hb); have n3_ := Aside0.mk (hbox); have n4_ := Aside0.mk ((by rw [hg]; exact (below_size (by repeat (first | (with_reducible first | exact HB.out | apply below_alloc | apply pw_below_drewN | apply below_drew1 | refine below_set ?_ GE133.out) | exact HB.out))) : w.heap.size ≤ gb140)); have n5_ := Aside0.mk ((by rw [hg]; exact (below_size (by repeat (first | (with_reducible first | exact HB.out | apply below_alloc | apply pw_below_drewN | apply below_drew1 | refine below_set ?_ GE133.out) | exact HB.out))) : w.heap.size ≤ gb140)); have n6_ := Aside0.mk ((by rw [hg]; exact Nat.ne_of_lt (blk_lt (g := gb133) (o := .cells #[.int .i64 0, .int .i64 0, .int .u64 0, .string (⟨#[]⟩ : ByteArray)] 56 (0, 0)) (by (with_reducible repeat (first | refine blk_drewN ?_ _ | refine blk_drew ?_ | refine blk_alloc ?_ _)); exact BK133.out)) : gb133 ≠ gb140)); have n7_ := Aside0.mk ((by rw [hg]; exact Nat.ne_of_gt (blk_lt (g := gb133) (o := .cells #[.int .i64 0, .int .i64 0, .int .u64 0, .string (⟨#[]⟩ : ByteArray)] 56 (0, 0)) (by (with_reducible repeat (first | refine blk_drewN ?_ _ | refine blk_drew ?_ | refine blk_alloc ?_ _)); exact BK133.out)) : gb140 ≠ gb133)); clear HO_4; clear BK133; clear HB; have HO_4 := n0_; have BK133 := n1_; have HB := n2_; have BK140 := n3_; have GW140 := n4_; have GE140 := n5_; have NB133_140 := n6_; have NB140_133 := n7_; clear n0_ n1_ n2_ n3_ n4_ n5_ n6_ n7_; clear hb hbox hg; have hnb20 := NB140_133.out; have hnc20 := NB133_140.out; have hcz21_0 : w19.cell? ⟨gb140, 0, none⟩ = some (.int .i64 0) := (blk_cell BK140.out 0).trans rfl; have hcz21_1 : w19.cell? ⟨gb140, 1, none⟩ = some (.int .i64 0) := (blk_cell BK140.out 1).trans rfl; have hcz21_2 : w19.cell? ⟨gb140, 2, none⟩ = some (.int .u64 0) := (blk_cell BK140.out 2).trans rfl; have hcz21_3 : w19.cell? ⟨gb140, 3, none⟩ = some (.string (⟨#[]⟩ : ByteArray)) := (blk_cell BK140.out 3).trans rfl; have hfz21_0 := blk_frozen BK140.out 0; have hfz21_1 := blk_frozen BK140.out 1; have hfz21_2 := blk_frozen BK140.out 2; have hfz21_3 := blk_frozen BK140.out 3; have hcz22_0 : w19.cell? ⟨gb133, 0, none⟩ = some (.int .i64 0) := (blk_cell BK133.out 0).trans rfl; have hcz22_1 : w19.cell? ⟨gb133, 1, none⟩ = some (.int .i64 0) := (blk_cell BK133.out 1).trans rfl; have hcz22_2 : w19.cell? ⟨gb133, 2, none⟩ = some (.int .u64 0) := (blk_cell BK133.out 2).trans rfl; have hcz22_3 : w19.cell? ⟨gb133, 3, none⟩ = some (.string (⟨#[]⟩ : ByteArray)) := (blk_cell BK133.out 3).trans rfl; have hfz22_0 := blk_frozen BK133.out 0; have hfz22_1 := blk_frozen BK133.out 1; have hfz22_2 := blk_frozen BK133.out 2; have hfz22_3 := blk_frozen BK133.out 3) | ((with_reducible refine gate_builtin (b := .append) (xs := #[.tmp 67, .tmp 69]) rfl ?_); at_builtin; refine Kd.R_append k56 (w0 := w) w.heap.size rfl (.tmp 67) (.tmp 69) 33 56 (.agg #[(.int .i64 0), (.int .i64 0), (.int .u64 0), (.string ⟨#[]⟩)]) 40 rfl Tryd.underlying33 info56 rfl (by decide) (by omega) (.slice Ao15 x4_1.length co15) x4_1 (⟨t134, t135, t136, t137⟩ : S56) [.int .i64 t134, .int .i64 t135, .int .u64 t136, .string t137] (fun k_ => k_ ≠ gb133 ∧ k_ ≠ gb140) (fun _ => False) rfl (by first | (go_simp; done) | (go_simp; rfl)) ?aP (fun _ hk => hk.elim) ?aF ?aO ?aB ?aS ?aL ?_; (case aP => exact k56_mkM _ _ _ (⟨t134, t135, t136, t137⟩ : S56)); (case aB => exact (by repeat (first | (with_reducible first | exact HB.out | apply below_alloc | apply pw_below_drewN | apply below_drew1 | refine below_set ?_ GE133.out | refine below_set ?_ GE140.out) | exact HB.out))); (case aF => exact (fun k_ hk => ⟨Kd.freshB (g := gb133) (o := .cells #[.int .i64 t134, .int .i64 t135, .int .u64 t136, .string t137] 56 (0, 0)) (by (with_reducible repeat (first | refine blk_drewN ?_ _ | refine blk_drew ?_ | refine blk_alloc ?_ _)); refine blk_put (cs := #[.int .i64 t134, .int .i64 t135, .int .u64 t136, .string (⟨#[]⟩ : ByteArray)]) ?_ 3 _ rfl; (with_reducible repeat (first | refine blk_drewN ?_ _ | refine blk_drew ?_ | refine blk_alloc ?_ _)); refine blk_put (cs := #[.int .i64 t134, .int .i64 t135, .int .u64 0, .string (⟨#[]⟩ : ByteArray)]) ?_ 2 _ rfl; (with_reducible repeat (first | refine blk_drewN ?_ _ | refine blk_drew ?_ | refine blk_alloc ?_ _)); refine blk_put (cs := #[.int .i64 t134, .int .i64 0, .int .u64 0, .string (⟨#[]⟩ : ByteArray)]) ?_ 1 _ rfl; (with_reducible repeat (first | refine blk_drewN ?_ _ | refine blk_drew ?_ | refine blk_alloc ?_ _)); refine blk_put (cs := #[.int .i64 0, .int .i64 0, .int .u64 0, .string (⟨#[]⟩ : ByteArray)]) ?_ 0 _ rfl; (with_reducible repeat (first | refine blk_drewN ?_ _ | refine blk_drew ?_ | refine blk_alloc ?_ _)); refine blk_far ?_ NB133_140.out _; (with_reducible repeat (first | refine blk_drewN ?_ _ | refine blk_drew ?_ | refine blk_alloc ?_ _)); refine blk_far ?_ NB133_140.out _; (with_reducible repeat (first | refine blk_drewN ?_ _ | refine blk_drew ?_ | refine blk_alloc ?_ _)); refine blk_far ?_ NB133_140.out _; (with_reducible repeat (first | refine blk_drewN ?_ _ | refine blk_drew ?_ | refine blk_alloc ?_ _)); refine blk_far ?_ NB133_140.out _; (with_reducible repeat (first | refine blk_drewN ?_ _ | refine blk_drew ?_ | refine blk_alloc ?_ _)); exact BK133.out) k_ hk, Kd.freshB (g := gb140) (o := .cells #[.int .i64 t134, .int .i64 t135, .int .u64 t136, .string t137] 56 (0, 0)) (by (with_reducible repeat (first | refine blk_drewN ?_ _ | refine blk_drew ?_ | refine blk_alloc ?_ _)); refine blk_far ?_ NB140_133.out _; (with_reducible repeat (first | refine blk_drewN ?_ _ | refine blk_drew ?_ | refine blk_alloc ?_ _)); refine blk_far ?_ NB140_133.out _; (with_reducible repeat (first | refine blk_drewN ?_ _ | refine blk_drew ?_ | refine blk_alloc ?_ _)); refine blk_far ?_ NB140_133.out _; (with_reducible repeat (first | refine blk_drewN ?_ _ | refine blk_drew ?_ | refine blk_alloc ?_ _)); refine blk_far ?_ NB140_133.out _; (with_reducible repeat (first | refine blk_drewN ?_ _ | refine blk_drew ?_ | refine blk_alloc ?_ _)); refine blk_put (cs := #[.int .i64 t134, .int .i64 t135, .int .u64 t136, .string (⟨#[]⟩ : ByteArray)]) ?_ 3 _ rfl; (with_reducible repeat (first | refine blk_drewN ?_ _ | refine blk_drew ?_ | refine blk_alloc ?_ _)); refine blk_put (cs := #[.int .i64 t134, .int .i64 t135, .int .u64 0, .string (⟨#[]⟩ : ByteArray)]) ?_ 2 _ rfl; (with_reducible repeat (first | refine blk_drewN ?_ _ | refine blk_drew ?_ | refine blk_alloc ?_ _)); refine blk_put (cs := #[.int .i64 t134, .int .i64 0, .int .u64 0, .string (⟨#[]⟩ : ByteArray)]) ?_ 1 _ rfl; (with_reducible repeat (first | refine blk_drewN ?_ _ | refine blk_drew ?_ | refine blk_alloc ?_ _)); refine blk_put (cs := #[.int .i64 0, .int .i64 0, .int .u64 0, .string (⟨#[]⟩ : ByteArray)]) ?_ 0 _ rfl; (with_reducible repeat (first | refine blk_drewN ?_ _ | refine blk_drew ?_ | refine blk_alloc ?_ _)); exact BK140.out) k_ hk⟩)); (case aO => exact (by (with_reducible repeat (first | apply Kd.R_alloc | apply Kd.R_drewN | apply Kd.R_drew)); exact Kd.R_mono (Kd.R_far (p := ⟨gb133, 3, none⟩) (Kd.R_far (p := ⟨gb133, 2, none⟩) (Kd.R_far (p := ⟨gb133, 1, none⟩) (Kd.R_far (p := ⟨gb133, 0, none⟩) (Kd.R_far (p := ⟨gb140, 3, none⟩) (Kd.R_far (p := ⟨gb140, 2, none⟩) (Kd.R_far (p := ⟨gb140, 1, none⟩) (Kd.R_far (p := ⟨gb140, 0, none⟩) (Kd.R_mono (Kd.R_mono HO_4.out (fun k_ hk => (⟨hk, hk.2⟩ : _ ∧ k_ ≠ gb140))) (fun k_ hk => (⟨hk, hk.1.1.2⟩ : _ ∧ k_ ≠ gb133))) (fun _ hk => hk.1.2) (.int .i64 t134)) (fun _ hk => hk.1.2) (.int .i64 t135)) (fun _ hk => hk.1.2) (.int .u64 t136)) (fun _ hk => hk.1.2) (.string t137)) (fun _ hk => hk.2) (.int .i64 t134)) (fun _ hk => hk.2) (.int .i64 t135)) (fun _ hk => hk.2) (.int .u64 t136)) (fun _ hk => hk.2) (.string t137)) (fun _ hk => ⟨hk.1.1.1.2, hk.1.1.2⟩))); (case aS => exact (below_size (by repeat (first | (with_reducible first | exact HB.out | apply below_alloc | apply pw_below_drewN | apply below_drew1 | refine below_set ?_ GE133.out | refine below_set ?_ GE140.out) | exact HB.out)))); (case aL => have := LMc14.out; omega); intro v142 w23 ho hb hg hat; rw [← Ny141.out] at ho; have n0_ := Aside0.mk (blk_grown (g := gb133) (o := .cells #[.int .i64 t134, .int .i64 t135, .int .u64 t136, .string t137] 56 (0, 0)) (by (with_reducible repeat (first | refine blk_drewN ?_ _ | refine blk_drew ?_ | refine blk_alloc ?_ _)); refine blk_put (cs := #[.int .i64 t134, .int .i64 t135, .int .u64 t136, .string (⟨#[]⟩ : ByteArray)]) ?_ 3 _ rfl; (with_reducible repeat (first | refine blk_drewN ?_ _ | refine blk_drew ?_ | refine blk_alloc ?_ _)); refine blk_put (cs := #[.int .i64 t134, .int .i64 t135, .int .u64 0, .string (⟨#[]⟩ : ByteArray)]) ?_ 2 _ rfl; (with_reducible repeat (first | refine blk_drewN ?_ _ | refine blk_drew ?_ | refine blk_alloc ?_ _)); refine blk_put (cs := #[.int .i64 t134, .int .i64 0, .int .u64 0, .string (⟨#[]⟩ : ByteArray)]) ?_ 1 _ rfl; (with_reducible repeat (first | refine blk_drewN ?_ _ | refine blk_drew ?_ | refine blk_alloc ?_ _)); refine blk_put (cs := #[.int .i64 0, .int .i64 0, .int .u64 0, .string (⟨#[]⟩ : ByteArray)]) ?_ 0 _ rfl; (with_reducible repeat (first | refine blk_drewN ?_ _ | refine blk_drew ?_ | refine blk_alloc ?_ _)); refine blk_far ?_ NB133_140.out _; (with_reducible repeat (first | refine blk_drewN ?_ _ | refine blk_drew ?_ | refine blk_alloc ?_ _)); refine blk_far ?_ NB133_140.out _; (with_reducible repeat (first | refine blk_drewN ?_ _ | refine blk_drew ?_ | refine blk_alloc ?_ _)); refine blk_far ?_ NB133_140.out _; (with_reducible repeat (first | refine blk_drewN ?_ _ | refine blk_drew ?_ | refine blk_alloc ?_ _)); refine blk_far ?_ NB133_140.out _; (with_reducible repeat (first | refine blk_drewN ?_ _ | refine blk_drew ?_ | refine blk_alloc ?_ _)); exact BK133.out) hg (Kd.R_away HO_4.out (fun _ hk => hk.1.2))); have n1_ := Aside0.mk (blk_grown (g := gb140) (o := .cells #[.int .i64 t134, .int .i64 t135, .int .u64 t136, .string t137] 56 (0, 0)) (by (with_reducible repeat (first | refine blk_drewN ?_ _ | refine blk_drew ?_ | refine blk_alloc ?_ _)); refine blk_far ?_ NB140_133.out _; (with_reducible repeat (first | refine blk_drewN ?_ _ | refine blk_drew ?_ | refine blk_alloc ?_ _)); refine blk_far ?_ NB140_133.out _; (with_reducible repeat (first | refine blk_drewN ?_ _ | refine blk_drew ?_ | refine blk_alloc ?_ _)); refine blk_far ?_ NB140_133.out _; (with_reducible repeat (first | refine blk_drewN ?_ _ | refine blk_drew ?_ | refine blk_alloc ?_ _)); refine blk_far ?_ NB140_133.out _; (with_reducible repeat (first | refine blk_drewN ?_ _ | refine blk_drew ?_ | refine blk_alloc ?_ _)); refine blk_put (cs := #[.int .i64 t134, .int .i64 t135, .int .u64 t136, .string (⟨#[]⟩ : ByteArray)]) ?_ 3 _ rfl; (with_reducible repeat (first | refine blk_drewN ?_ _ | refine blk_drew ?_ | refine blk_alloc ?_ _)); refine blk_put (cs := #[.int .i64 t134, .int .i64 t135, .int .u64 0, .string (⟨#[]⟩ : ByteArray)]) ?_ 2 _ rfl; (with_reducible repeat (first | refine blk_drewN ?_ _ | refine blk_drew ?_ | refine blk_alloc ?_ _)); refine blk_put (cs := #[.int .i64 t134, .int .i64 0, .int .u64 0, .string (⟨#[]⟩ : ByteArray)]) ?_ 1 _ rfl; (with_reducible repeat (first | refine blk_drewN ?_ _ | refine blk_drew ?_ | refine blk_alloc ?_ _)); refine blk_put (cs := #[.int .i64 0, .int .i64 0, .int .u64 0, .string (⟨#[]⟩ : ByteArray)]) ?_ 0 _ rfl; (with_reducible repeat (first | refine blk_drewN ?_ _ | refine blk_drew ?_ | refine blk_alloc ?_ _)); exact BK140.out) hg (Kd.R_away HO_4.out (fun _ hk => hk.2))); have n2_ := Aside0.mk (hb); have n3_ := Aside0.mk (ho); clear BK133; clear BK140; clear HB; clear HO_4; have BK133 := n0_; have BK140 := n1_; have HB := n2_; have HO143 := n3_; clear n0_ n1_ n2_ n3_; clear ho hb hg hat))
                    go_roundg k1
                    case measure => have := HK1.out; omega
                    case rel => exact ⟨(y141), (t138), (by first | rfl | (simp; done) | (simp [*]; done)), H', ⟨by have := HK1.out; omega⟩, ⟨by (with_reducible repeat (first | apply Kd.R_alloc | apply Kd.R_drewN | apply Kd.R_drew)); exact Kd.R_mono HO143.out (fun _ hk => trivial)⟩, ⟨by repeat (first | (with_reducible first | exact HB.out | apply below_alloc | apply pw_below_drewN | apply below_drew1 | refine below_set ?_ GE133.out | refine below_set ?_ GE140.out) | exact HB.out)⟩⟩
                  · rw [if_neg c14] at H
                    exact absurd H (by simp)
                · rw [if_neg c13] at H
                  have c13b0 : (t139 == 0) = false := beq_eq_false_iff_ne.mpr c13
                  have c13b1 : (t139 != 0) = true := bne_iff_ne.mpr c13
                  simp only [Option.some.injEq, Prod.mk.injEq] at H
                  obtain ⟨rfl, rfl⟩ := H
                  obtain ⟨Ao24, co24, eo24⟩ := Kd.R_slice HO_4.out
                  subst eo24
                  have p8 : 0 ≤ (x5_1 : Int) := of_decide_eq_true (by first | (with_reducible assumption) | assumption)
                  have q8 : x5_1 < (a0.size : Int) := of_decide_eq_true (by first | (with_reducible assumption) | assumption)
                  have hx8 := bt_at a0 x5_1
                  replace p8 := eq_true p8
                  replace q8 := eq_true q8
                  go_wp2_with (first | ((with_reducible refine gate_dst (N := 7) rfl ?_); refine box_event ?hg (N := 7) ?hd (cs := #[.int .i64 0, .int .i64 0, .int .u64 0, .string (⟨#[]⟩ : ByteArray)]) (t := 56) ?hr ?_; (case hd => rfl); (case hg => rfl); (case hr => first | (go_simp; done) | (go_simp; rfl)); intro gb133 hg w25 hbox hb; have n0_ := Aside0.mk (Kd.R_below (Kd.R_elderB (by (with_reducible repeat (first | apply Kd.R_alloc | apply Kd.R_drewN | apply Kd.R_drew)); exact HO_4.out) gb133 (Nat.le_of_eq hg.symm)) hb); have n1_ := Aside0.mk (below_step (by repeat (first | (with_reducible first | exact HB.out | apply below_alloc | apply pw_below_drewN | apply below_drew1) | exact HB.out)) hb); have n2_ := Aside0.mk (hbox); have n3_ := Aside0.mk ((by rw [hg]; exact (below_size (by repeat (first | (with_reducible first | exact HB.out | apply below_alloc | apply pw_below_drewN | apply below_drew1) | exact HB.out))) : w.heap.size ≤ gb133)); have n4_ := Aside0.mk ((by rw [hg]; exact (below_size (by repeat (first | (with_reducible first | exact HB.out | apply below_alloc | apply pw_below_drewN | apply below_drew1) | exact HB.out))) : w.heap.size ≤ gb133)); clear HO_4; clear HB; have HO_4 := n0_; have HB := n1_; have BK133 := n2_; have GW133 := n3_; have GE133 := n4_; clear n0_ n1_ n2_ n3_ n4_; clear hb hbox hg; have hcz26_0 : w25.cell? ⟨gb133, 0, none⟩ = some (.int .i64 0) := (blk_cell BK133.out 0).trans rfl; have hcz26_1 : w25.cell? ⟨gb133, 1, none⟩ = some (.int .i64 0) := (blk_cell BK133.out 1).trans rfl; have hcz26_2 : w25.cell? ⟨gb133, 2, none⟩ = some (.int .u64 0) := (blk_cell BK133.out 2).trans rfl; have hcz26_3 : w25.cell? ⟨gb133, 3, none⟩ = some (.string (⟨#[]⟩ : ByteArray)) := (blk_cell BK133.out 3).trans rfl; have hfz26_0 := blk_frozen BK133.out 0; have hfz26_1 := blk_frozen BK133.out 1; have hfz26_2 := blk_frozen BK133.out 2; have hfz26_3 := blk_frozen BK133.out 3) | ((with_reducible refine gate_callee (f := 49) rfl ?_); refine goesL_ (some 35) rfl rfl Tryd.func49 (by kernel_rfl) rfl #[.string a0, .int .i64 (wrap64 (x5_1 + 1))] rfl (by (try simp only [List.map_toArray, List.map_cons, List.map_nil]); first | done | rfl | (simp only [List.length_drop, List.length_take]; rfl)) ?_; (with_reducible refine (freshetref02_text.calls k1 a0 (wrap64 (x5_1 + 1)) t134 t135 t136 t137 t138 t139 _ A12.out).mono ?_); rintro e w27 ⟨rfl, hb⟩; refine ⟨_, rfl, ?_⟩; have n0_ := Aside0.mk (Kd.R_below (by (with_reducible repeat (first | apply Kd.R_alloc | apply Kd.R_drewN | apply Kd.R_drew)); exact (Kd.R_mono (Kd.R_far (p := ⟨gb133, 3, none⟩) (Kd.R_far (p := ⟨gb133, 2, none⟩) (Kd.R_far (p := ⟨gb133, 1, none⟩) (Kd.R_far (p := ⟨gb133, 0, none⟩) (Kd.R_mono HO_4.out (fun k_ hk => (⟨hk, hk.2⟩ : _ ∧ k_ ≠ gb133))) (fun _ hk => hk.2) (.int .i64 0)) (fun _ hk => hk.2) (.int .i64 0)) (fun _ hk => hk.2) (.int .u64 0)) (fun _ hk => hk.2) (.string (⟨#[]⟩ : ByteArray))) (fun _ h_ => h_.1))) hb); have n1_ := Aside0.mk (blk_below (g := gb133) (o := .cells #[.int .i64 0, .int .i64 0, .int .u64 0, .string (⟨#[]⟩ : ByteArray)] 56 (0, 0)) (by (with_reducible repeat (first | refine blk_drewN ?_ _ | refine blk_drew ?_ | refine blk_alloc ?_ _)); refine blk_put (cs := #[.int .i64 0, .int .i64 0, .int .u64 0, .string (⟨#[]⟩ : ByteArray)]) ?_ 3 _ rfl; (with_reducible repeat (first | refine blk_drewN ?_ _ | refine blk_drew ?_ | refine blk_alloc ?_ _)); refine blk_put (cs := #[.int .i64 0, .int .i64 0, .int .u64 0, .string (⟨#[]⟩ : ByteArray)]) ?_ 2 _ rfl; (with_reducible repeat (first | refine blk_drewN ?_ _ | refine blk_drew ?_ | refine blk_alloc ?_ _)); refine blk_put (cs := #[.int .i64 0, .int .i64 0, .int .u64 0, .string (⟨#[]⟩ : ByteArray)]) ?_ 1 _ rfl; (with_reducible repeat (first | refine blk_drewN ?_ _ | refine blk_drew ?_ | refine blk_alloc ?_ _)); refine blk_put (cs := #[.int .i64 0, .int .i64 0, .int .u64 0, .string (⟨#[]⟩ : ByteArray)]) ?_ 0 _ rfl; (with_reducible repeat (first | refine blk_drewN ?_ _ | refine blk_drew ?_ | refine blk_alloc ?_ _)); exact BK133.out) hb); have n2_ := Aside0.mk (below_step (by repeat (first | (with_reducible first | exact HB.out | apply below_alloc | apply pw_below_drewN | apply below_drew1 | refine below_set ?_ GE133.out) | exact HB.out)) hb); clear HO_4; clear BK133; clear HB; have HO_4 := n0_; have BK133 := n1_; have HB := n2_; clear n0_ n1_ n2_; (try clear hb); (try clear hb2); (try clear hk); (try clear hi)) | ((with_reducible refine gate_dst (N := 8) rfl ?_); refine box_event ?hg (N := 8) ?hd (cs := #[.int .i64 0, .int .i64 0, .int .u64 0, .string (⟨#[]⟩ : ByteArray)]) (t := 56) ?hr ?_; (case hd => rfl); (case hg => rfl); (case hr => first | (go_simp; done) | (go_simp; rfl)); intro gb140 hg w28 hbox hb; have n0_ := Aside0.mk (Kd.R_below (Kd.R_elderB (by (with_reducible repeat (first | apply Kd.R_alloc | apply Kd.R_drewN | apply Kd.R_drew)); exact HO_4.out) gb140 (Nat.le_of_eq hg.symm)) hb); have n1_ := Aside0.mk (blk_below (g := gb133) (o := .cells #[.int .i64 0, .int .i64 0, .int .u64 0, .string (⟨#[]⟩ : ByteArray)] 56 (0, 0)) (by (with_reducible repeat (first | refine blk_drewN ?_ _ | refine blk_drew ?_ | refine blk_alloc ?_ _)); exact BK133.out) hb); have n2_ := Aside0.mk (below_step (by repeat (first | (with_reducible first | exact HB.out | apply below_alloc | apply pw_below_drewN | apply below_drew1 | refine below_set ?_ GE133.out) | exact HB.out)) hb); have n3_ := Aside0.mk (hbox); have n4_ := Aside0.mk ((by rw [hg]; exact (below_size (by repeat (first | (with_reducible first | exact HB.out | apply below_alloc | apply pw_below_drewN | apply below_drew1 | refine below_set ?_ GE133.out) | exact HB.out))) : w.heap.size ≤ gb140)); have n5_ := Aside0.mk ((by rw [hg]; exact (below_size (by repeat (first | (with_reducible first | exact HB.out | apply below_alloc | apply pw_below_drewN | apply below_drew1 | refine below_set ?_ GE133.out) | exact HB.out))) : w.heap.size ≤ gb140)); have n6_ := Aside0.mk ((by rw [hg]; exact Nat.ne_of_lt (blk_lt (g := gb133) (o := .cells #[.int .i64 0, .int .i64 0, .int .u64 0, .string (⟨#[]⟩ : ByteArray)] 56 (0, 0)) (by (with_reducible repeat (first | refine blk_drewN ?_ _ | refine blk_drew ?_ | refine blk_alloc ?_ _)); exact BK133.out)) : gb133 ≠ gb140)); have n7_ := Aside0.mk ((by rw [hg]; exact Nat.ne_of_gt (blk_lt (g := gb133) (o := .cells #[.int .i64 0, .int .i64 0, .int .u64 0, .string (⟨#[]⟩ : ByteArray)] 56 (0, 0)) (by (with_reducible repeat (first | refine blk_drewN ?_ _ | refine blk_drew ?_ | refine blk_alloc ?_ _)); exact BK133.out)) : gb140 ≠ gb133)); clear HO_4; clear BK133; clear HB; have HO_4 := n0_; have BK133 := n1_; have HB := n2_; have BK140 := n3_; have GW140 := n4_; have GE140 := n5_; have NB133_140 := n6_; have NB140_133 := n7_; clear n0_ n1_ n2_ n3_ n4_ n5_ n6_ n7_; clear hb hbox hg; have hnb29 := NB140_133.out; have hnc29 := NB133_140.out; have hcz30_0 : w28.cell? ⟨gb140, 0, none⟩ = some (.int .i64 0) := (blk_cell BK140.out 0).trans rfl; have hcz30_1 : w28.cell? ⟨gb140, 1, none⟩ = some (.int .i64 0) := (blk_cell BK140.out 1).trans rfl; have hcz30_2 : w28.cell? ⟨gb140, 2, none⟩ = some (.int .u64 0) := (blk_cell BK140.out 2).trans rfl; have hcz30_3 : w28.cell? ⟨gb140, 3, none⟩ = some (.string (⟨#[]⟩ : ByteArray)) := (blk_cell BK140.out 3).trans rfl; have hfz30_0 := blk_frozen BK140.out 0; have hfz30_1 := blk_frozen BK140.out 1; have hfz30_2 := blk_frozen BK140.out 2; have hfz30_3 := blk_frozen BK140.out 3))
                  go_ret2
                  exact ⟨_, by first | rfl | (simp [errW_none, errW_some] <;> rfl) | (simp [*, errW_none, errW_some] <;> rfl), by first | exact Kd.R_nil _ _ _ _ _ | exact Kd.N_nil _ _ _ _ _ | exact Kd.V_nil _ _ _ _ _ | exact Kd.Q_nil _ _ _ _ _ | exact Kd.S_nil _ _ _ _ _, by repeat (first | (with_reducible first | exact HB.out | apply below_alloc | apply pw_below_drewN | apply below_drew1 | refine below_set ?_ GE133.out | refine below_set ?_ GE140.out) | exact HB.out)⟩
              · rw [if_neg c11] at H
                have c11b0 : ((wrap64 (bt a0 x5_1)) == 4) = false := beq_eq_false_iff_ne.mpr c11
                have c11b1 : ((wrap64 (bt a0 x5_1)) != 4) = true := bne_iff_ne.mpr c11
                by_cases c31 : (wrap64 (bt a0 x5_1)) > 0
                · rw [if_pos c31] at H
                  have c31b0 : decide (0 < (wrap64 (bt a0 x5_1))) = true := decide_eq_true c31
                  clear c31
                  by_cases c32 : (wrap64 ((a0.size : Int) - (wrap64 (x5_1 + 1)))) < 8
                  · rw [if_pos c32] at H
                    have c32b0 : decide ((wrap64 ((a0.size : Int) - (wrap64 (x5_1 + 1)))) < 8) = true := decide_eq_true c32
                    clear c32
                    simp only [Option.some.injEq, Prod.mk.injEq] at H
                    obtain ⟨rfl, rfl⟩ := H
                    obtain ⟨Ao33, co33, eo33⟩ := Kd.R_slice HO_4.out
                    subst eo33
                    have p8 : 0 ≤ (x5_1 : Int) := of_decide_eq_true (by first | (with_reducible assumption) | assumption)
                    have q8 : x5_1 < (a0.size : Int) := of_decide_eq_true (by first | (with_reducible assumption) | assumption)
                    have hx8 := bt_at a0 x5_1
                    replace p8 := eq_true p8
                    replace q8 := eq_true q8
                    go_wp2_with (first | ((with_reducible refine gate_dst (N := 7) rfl ?_); refine box_event ?hg (N := 7) ?hd (cs := #[.int .i64 0, .int .i64 0, .int .u64 0, .string (⟨#[]⟩ : ByteArray)]) (t := 56) ?hr ?_; (case hd => rfl); (case hg => rfl); (case hr => first | (go_simp; done) | (go_simp; rfl)); intro gb133 hg w34 hbox hb; have n0_ := Aside0.mk (Kd.R_below (Kd.R_elderB (by (with_reducible repeat (first | apply Kd.R_alloc | apply Kd.R_drewN | apply Kd.R_drew)); exact HO_4.out) gb133 (Nat.le_of_eq hg.symm)) hb); have n1_ := Aside0.mk (below_step (by repeat (first | (with_reducible first | exact HB.out | apply below_alloc | apply pw_below_drewN | apply below_drew1) | exact HB.out)) hb); have n2_ := Aside0.mk (hbox); have n3_ := Aside0.mk ((by rw [hg]; exact (below_size (by repeat (first | (with_reducible first | exact HB.out | apply below_alloc | apply pw_below_drewN | apply below_drew1) | exact HB.out))) : w.heap.size ≤ gb133)); have n4_ := Aside0.mk ((by rw [hg]; exact (below_size (by repeat (first | (with_reducible first | exact HB.out | apply below_alloc | apply pw_below_drewN | apply below_drew1) | exact HB.out))) : w.heap.size ≤ gb133)); clear HO_4; clear HB; have HO_4 := n0_; have HB := n1_; have BK133 := n2_; have GW133 := n3_; have GE133 := n4_; clear n0_ n1_ n2_ n3_ n4_; clear hb hbox hg; have hcz35_0 : w34.cell? ⟨gb133, 0, none⟩ = some (.int .i64 0) := (blk_cell BK133.out 0).trans rfl; have hcz35_1 : w34.cell? ⟨gb133, 1, none⟩ = some (.int .i64 0) := (blk_cell BK133.out 1).trans rfl; have hcz35_2 : w34.cell? ⟨gb133, 2, none⟩ = some (.int .u64 0) := (blk_cell BK133.out 2).trans rfl; have hcz35_3 : w34.cell? ⟨gb133, 3, none⟩ = some (.string (⟨#[]⟩ : ByteArray)) := (blk_cell BK133.out 3).trans rfl; have hfz35_0 := blk_frozen BK133.out 0; have hfz35_1 := blk_frozen BK133.out 1; have hfz35_2 := blk_frozen BK133.out 2; have hfz35_3 := blk_frozen BK133.out 3))
                    go_ret2
                    exact ⟨_, by first | rfl | (simp [errW_none, errW_some] <;> rfl) | (simp [*, errW_none, errW_some] <;> rfl), by first | exact Kd.R_nil _ _ _ _ _ | exact Kd.N_nil _ _ _ _ _ | exact Kd.V_nil _ _ _ _ _ | exact Kd.Q_nil _ _ _ _ _ | exact Kd.S_nil _ _ _ _ _, by repeat (first | (with_reducible first | exact HB.out | apply below_alloc | apply pw_below_drewN | apply below_drew1 | refine below_set ?_ GE133.out) | exact HB.out)⟩
                  · rw [if_neg c32] at H
                    have c32b0 : decide ((wrap64 ((a0.size : Int) - (wrap64 (x5_1 + 1)))) < 8) = false := decide_eq_false c32
                    clear c32
                    obtain ⟨ji36, hji36⟩ : ∃ j_ : Int, (wrap64 (x5_1 + 1)) = j_ := ⟨_, rfl⟩
                    replace H : (if 0 ≤ (ji36) then (if (ji36) ≤ (wrap64 ((ji36) + 8)) then (if (wrap64 ((ji36) + 8)) ≤ (a0.size : Int) then ((xrNumber.f (wrap64 (bt a0 x5_1)) (a0.extract ((ji36) : Int).toNat ((wrap64 ((ji36) + 8)) : Int).toNat)).bind fun bt144 => (if bt144.2.2.2.2 = 0 then (if x4_1.length < 3518437208883 then (freshetref02_Decode.l0 k1 a0 (x4_1 ++ [(⟨bt144.1, bt144.2.1, bt144.2.2.1, bt144.2.2.2.1⟩ : S56)]) (wrap64 ((ji36) + 8))) else (none)) else (some (([] : List (S56)), bt144.2.2.2.2)))) else (none)) else (none)) else (none)) = some (r1, r2) := by first | (rw [hji36] at H; exact H) | (simp only [hji36] at H ⊢; exact H)
                    (try rw [hji36] at c32b0)
                    have hji36w : (IntKind.i64.wrap (x5_1 + 1)) = ji36 := (i64_w _).trans hji36
                    by_cases c37 : 0 ≤ (ji36)
                    · rw [if_pos c37] at H
                      have c37b0 := eq_true c37
                      have c37b1 : decide (0 ≤ (ji36)) = true := decide_eq_true c37
                      clear c37
                      by_cases c38 : (ji36) ≤ (wrap64 ((ji36) + 8))
                      · rw [if_pos c38] at H
                        have c38b0 := eq_true c38
                        have c38b1 : decide ((ji36) ≤ (wrap64 ((ji36) + 8))) = true := decide_eq_true c38
                        by_cases c39 : (wrap64 ((ji36) + 8)) ≤ (a0.size : Int)
                        · rw [if_pos c39] at H
                          have c39b0 := eq_true c39
                          have c39b1 : decide ((wrap64 ((ji36) + 8)) ≤ (a0.size : Int)) = true := decide_eq_true c39
                          replace H := Option.bind_eq_some_iff.mp H
                          obtain ⟨⟨t144, t145, t146, t147, t148⟩, A400, H⟩ := H
                          replace H : (if t148 = 0 then (if x4_1.length < 3518437208883 then (freshetref02_Decode.l0 k1 a0 (x4_1 ++ [(⟨t144, t145, t146, t147⟩ : S56)]) (wrap64 ((ji36) + 8))) else (none)) else (some (([] : List (S56)), t148))) = some (r1, r2) := H
                          have A40 := Aside0.mk A400
                          clear A400
                          by_cases c41 : t148 = 0
                          · rw [if_pos c41] at H
                            have c41b0 : (t148 == 0) = true := beq_iff_eq.mpr c41
                            have c41b1 : (t148 != 0) = false := bne_eq_false_iff_eq.mpr c41
                            clear c41
                            by_cases c42 : x4_1.length < 3518437208883
                            · rw [if_pos c42] at H
                              have LMc42 := Aside0.mk c42
                              clear c42
                              obtain ⟨y150, hy150⟩ : ∃ y_ : List (S56), y_ = (x4_1 ++ [(⟨t144, t145, t146, t147⟩ : S56)]) := ⟨_, rfl⟩
                              replace H : (freshetref02_Decode.l0 k1 a0 y150 (wrap64 ((ji36) + 8))) = some (r1, r2) := by first | (rw [hy150]; with_reducible exact H) | (have H2_ := (Option.bind_some _ _).symm.trans H; rw [hy150]; with_reducible exact H2_) | (have H2_ := (Option.bind_some _ _).symm.trans H; with_reducible exact H2_) | with_reducible exact H | (rw [hy150]; exact H) | exact H
                              have Ny150 := Aside0.mk hy150
                              clear hy150
                              have H' := Aside0.mk H
                              clear H
                              obtain ⟨Ao43, co43, eo43⟩ := Kd.R_slice HO_4.out
                              subst eo43
                              have p8 : 0 ≤ (x5_1 : Int) := of_decide_eq_true (by first | (with_reducible assumption) | assumption)
                              have q8 : x5_1 < (a0.size : Int) := of_decide_eq_true (by first | (with_reducible assumption) | assumption)
                              have hx8 := bt_at a0 x5_1
                              replace p8 := eq_true p8
                              replace q8 := eq_true q8
                              go_wp2_with (first | ((with_reducible refine gate_dst (N := 7) rfl ?_); refine box_event ?hg (N := 7) ?hd (cs := #[.int .i64 0, .int .i64 0, .int .u64 0, .string (⟨#[]⟩ : ByteArray)]) (t := 56) ?hr ?_; (case hd => rfl); (case hg => rfl); (case hr => first | (go_simp; done) | (go_simp; rfl)); intro gb133 hg w44 hbox hb; have n0_ := Aside0.mk (Kd.R_below (Kd.R_elderB (by (with_reducible repeat (first | apply Kd.R_alloc | apply Kd.R_drewN | apply Kd.R_drew)); exact HO_4.out) gb133 (Nat.le_of_eq hg.symm)) hb); have n1_ := Aside0.mk (below_step (by repeat (first | (with_reducible first | exact HB.out | apply below_alloc | apply pw_below_drewN | apply below_drew1) | exact HB.out)) hb); have n2_ := Aside0.mk (hbox); have n3_ := Aside0.mk ((by rw [hg]; exact (below_size (by repeat (first | (with_reducible first | exact HB.out | apply below_alloc | apply pw_below_drewN | apply below_drew1) | exact HB.out))) : w.heap.size ≤ gb133)); have n4_ := Aside0.mk ((by rw [hg]; exact (below_size (by repeat (first | (with_reducible first | exact HB.out | apply below_alloc | apply pw_below_drewN | apply below_drew1) | exact HB.out))) : w.heap.size ≤ gb133)); clear HO_4; clear HB; have HO_4 := n0_; have HB := n1_; have BK133 := n2_; have GW133 := n3_; have GE133 := n4_; clear n0_ n1_ n2_ n3_ n4_; clear hb hbox hg; have hcz45_0 : w44.cell? ⟨gb133, 0, none⟩ = some (.int .i64 0) := (blk_cell BK133.out 0).trans rfl; have hcz45_1 : w44.cell? ⟨gb133, 1, none⟩ = some (.int .i64 0) := (blk_cell BK133.out 1).trans rfl; have hcz45_2 : w44.cell? ⟨gb133, 2, none⟩ = some (.int .u64 0) := (blk_cell BK133.out 2).trans rfl; have hcz45_3 : w44.cell? ⟨gb133, 3, none⟩ = some (.string (⟨#[]⟩ : ByteArray)) := (blk_cell BK133.out 3).trans rfl; have hfz45_0 := blk_frozen BK133.out 0; have hfz45_1 := blk_frozen BK133.out 1; have hfz45_2 := blk_frozen BK133.out 2; have hfz45_3 := blk_frozen BK133.out 3) | ((with_reducible refine gate_callee (f := 50) rfl ?_); refine goesL_ (some 58) rfl rfl Tryd.func50 (by kernel_rfl) rfl #[.int .i64 (wrap64 (bt a0 x5_1)), .string (a0.extract ((ji36) : Int).toNat ((wrap64 ((ji36) + 8)) : Int).toNat)] rfl (by (try simp only [List.map_toArray, List.map_cons, List.map_nil]); first | done | (simp only [hji36]; rfl) | rfl | (simp only [List.length_drop, List.length_take]; rfl)) ?_; (with_reducible refine (xrNumber.calls (wrap64 (bt a0 x5_1)) (a0.extract ((ji36) : Int).toNat ((wrap64 ((ji36) + 8)) : Int).toNat) t144 t145 t146 t147 t148 _ A40.out).mono ?_); rintro e w46 ⟨rfl, hb⟩; refine ⟨_, rfl, ?_⟩; have n0_ := Aside0.mk (Kd.R_below (by (with_reducible repeat (first | apply Kd.R_alloc | apply Kd.R_drewN | apply Kd.R_drew)); exact (Kd.R_mono (Kd.R_far (p := ⟨gb133, 3, none⟩) (Kd.R_far (p := ⟨gb133, 2, none⟩) (Kd.R_far (p := ⟨gb133, 1, none⟩) (Kd.R_far (p := ⟨gb133, 0, none⟩) (Kd.R_mono HO_4.out (fun k_ hk => (⟨hk, hk.2⟩ : _ ∧ k_ ≠ gb133))) (fun _ hk => hk.2) (.int .i64 0)) (fun _ hk => hk.2) (.int .i64 0)) (fun _ hk => hk.2) (.int .u64 0)) (fun _ hk => hk.2) (.string (⟨#[]⟩ : ByteArray))) (fun _ h_ => h_.1))) hb); have n1_ := Aside0.mk (blk_below (g := gb133) (o := .cells #[.int .i64 0, .int .i64 0, .int .u64 0, .string (⟨#[]⟩ : ByteArray)] 56 (0, 0)) (by (with_reducible repeat (first | refine blk_drewN ?_ _ | refine blk_drew ?_ | refine blk_alloc ?_ _)); refine blk_put (cs := #[.int .i64 0, .int .i64 0, .int .u64 0, .string (⟨#[]⟩ : ByteArray)]) ?_ 3 _ rfl; (with_reducible repeat (first | refine blk_drewN ?_ _ | refine blk_drew ?_ | refine blk_alloc ?_ _)); refine blk_put (cs := #[.int .i64 0, .int .i64 0, .int .u64 0, .string (⟨#[]⟩ : ByteArray)]) ?_ 2 _ rfl; (with_reducible repeat (first | refine blk_drewN ?_ _ | refine blk_drew ?_ | refine blk_alloc ?_ _)); refine blk_put (cs := #[.int .i64 0, .int .i64 0, .int .u64 0, .string (⟨#[]⟩ : ByteArray)]) ?_ 1 _ rfl; (with_reducible repeat (first | refine blk_drewN ?_ _ | refine blk_drew ?_ | refine blk_alloc ?_ _)); refine blk_put (cs := #[.int .i64 0, .int .i64 0, .int .u64 0, .string (⟨#[]⟩ : ByteArray)]) ?_ 0 _ rfl; (with_reducible repeat (first | refine blk_drewN ?_ _ | refine blk_drew ?_ | refine blk_alloc ?_ _)); exact BK133.out) hb); have n2_ := Aside0.mk (below_step (by repeat (first | (with_reducible first | exact HB.out | apply below_alloc | apply pw_below_drewN | apply below_drew1 | refine below_set ?_ GE133.out) | exact HB.out)) hb); clear HO_4; clear BK133; clear HB; have HO_4 := n0_; have BK133 := n1_; have HB := n2_; clear n0_ n1_ n2_; (try clear hb); (try clear hb2); (try clear hk); (try clear hi)) | ((with_reducible refine gate_dst (N := 11) rfl ?_); refine box_event ?hg (N := 11) ?hd (cs := #[.int .i64 0, .int .i64 0, .int .u64 0, .string (⟨#[]⟩ : ByteArray)]) (t := 56) ?hr ?_; (case hd => rfl); (case hg => rfl); (case hr => first | (go_simp; done) | (go_simp; rfl)); intro gb149 hg w47 hbox hb; have n0_ := Aside0.mk (Kd.R_below (Kd.R_elderB (by (with_reducible repeat (first | apply Kd.R_alloc | apply Kd.R_drewN | apply Kd.R_drew)); exact HO_4.out) gb149 (Nat.le_of_eq hg.symm)) hb); have n1_ := Aside0.mk (blk_below (g := gb133) (o := .cells #[.int .i64 0, .int .i64 0, .int .u64 0, .string (⟨#[]⟩ : ByteArray)] 56 (0, 0)) (by (with_reducible repeat (first | refine blk_drewN ?_ _ | refine blk_drew ?_ | refine blk_alloc ?_ _)); exact BK133.out) hb); have n2_ := Aside0.mk (below_step (by repeat (first | (with_reducible first | exact HB.out | apply below_alloc | apply pw_below_drewN | apply below_drew1 | refine below_set ?_ GE133.out) | exact HB.out)) hb); have n3_ := Aside0.mk (hbox); have n4_ := Aside0.mk ((by rw [hg]; exact (below_size (by repeat (first | (with_reducible first | exact HB.out | apply below_alloc | apply pw_below_drewN | apply below_drew1 | refine below_set ?_ GE133.out) | exact HB.out))) : w.heap.size ≤ gb149)); have n5_ := Aside0.mk ((by rw [hg]; exact (below_size (by repeat (first | (with_reducible first | exact HB.out | apply below_alloc | apply pw_below_drewN | apply below_drew1 | refine below_set ?_ GE133.out) | exact HB.out))) : w.heap.size ≤ gb149)); have n6_ := Aside0.mk ((by rw [hg]; exact Nat.ne_of_lt (blk_lt (g := gb133) (o := .cells #[.int .i64 0, .int .i64 0, .int .u64 0, .string (⟨#[]⟩ : ByteArray)] 56 (0, 0)) (by (with_reducible repeat (first | refine blk_drewN ?_ _ | refine blk_drew ?_ | refine blk_alloc ?_ _)); exact BK133.out)) : gb133 ≠ gb149)); have n7_ := Aside0.mk ((by rw [hg]; exact Nat.ne_of_gt (blk_lt (g := gb133) (o := .cells #[.int .i64 0, .int .i64 0, .int .u64 0, .string (⟨#[]⟩ : ByteArray)] 56 (0, 0)) (by (with_reducible repeat (first | refine blk_drewN ?_ _ | refine blk_drew ?_ | refine blk_alloc ?_ _)); exact BK133.out)) : gb149 ≠ gb133)); clear HO_4; clear BK133; clear HB; have HO_4 := n0_; have BK133 := n1_; have HB := n2_; have BK149 := n3_; have GW149 := n4_; have GE149 := n5_; have NB133_149 := n6_; have NB149_133 := n7_; clear n0_ n1_ n2_ n3_ n4_ n5_ n6_ n7_; clear hb hbox hg; have hnb48 := NB149_133.out; have hnc48 := NB133_149.out; have hcz49_0 : w47.cell? ⟨gb149, 0, none⟩ = some (.int .i64 0) := (blk_cell BK149.out 0).trans rfl; have hcz49_1 : w47.cell? ⟨gb149, 1, none⟩ = some (.int .i64 0) := (blk_cell BK149.out 1).trans rfl; have hcz49_2 : w47.cell? ⟨gb149, 2, none⟩ = some (.int .u64 0) := (blk_cell BK149.out 2).trans rfl; have hcz49_3 : w47.cell? ⟨gb149, 3, none⟩ = some (.string (⟨#[]⟩ : ByteArray)) := (blk_cell BK149.out 3).trans rfl; have hfz49_0 := blk_frozen BK149.out 0; have hfz49_1 := blk_frozen BK149.out 1; have hfz49_2 := blk_frozen BK149.out 2; have hfz49_3 := blk_frozen BK149.out 3; have hcz50_0 : w47.cell? ⟨gb133, 0, none⟩ = some (.int .i64 0) := (blk_cell BK133.out 0).trans rfl; have hcz50_1 : w47.cell? ⟨gb133, 1, none⟩ = some (.int .i64 0) := (blk_cell BK133.out 1).trans rfl; have hcz50_2 : w47.cell? ⟨gb133, 2, none⟩ = some (.int .u64 0) := (blk_cell BK133.out 2).trans rfl; have hcz50_3 : w47.cell? ⟨gb133, 3, none⟩ = some (.string (⟨#[]⟩ : ByteArray)) := (blk_cell BK133.out 3).trans rfl; have hfz50_0 := blk_frozen BK133.out 0; have hfz50_1 := blk_frozen BK133.out 1; have hfz50_2 := blk_frozen BK133.out 2; have hfz50_3 := blk_frozen BK133.out 3) | ((with_reducible refine gate_builtin (b := .append) (xs := #[.tmp 67, .tmp 69]) rfl ?_); at_builtin; refine Kd.R_append k56 (w0 := w) w.heap.size rfl (.tmp 67) (.tmp 69) 33 56 (.agg #[(.int .i64 0), (.int .i64 0), (.int .u64 0), (.string ⟨#[]⟩)]) 40 rfl Tryd.underlying33 info56 rfl (by decide) (by omega) (.slice Ao43 x4_1.length co43) x4_1 (⟨t144, t145, t146, t147⟩ : S56) [.int .i64 t144, .int .i64 t145, .int .u64 t146, .string t147] (fun k_ => k_ ≠ gb133 ∧ k_ ≠ gb149) (fun _ => False) rfl (by first | (go_simp; done) | (go_simp; rfl)) ?aP (fun _ hk => hk.elim) ?aF ?aO ?aB ?aS ?aL ?_; (case aP => exact k56_mkM _ _ _ (⟨t144, t145, t146, t147⟩ : S56)); (case aB => exact (by repeat (first | (with_reducible first | exact HB.out | apply below_alloc | apply pw_below_drewN | apply below_drew1 | refine below_set ?_ GE133.out | refine below_set ?_ GE149.out) | exact HB.out))); (case aF => exact (fun k_ hk => ⟨Kd.freshB (g := gb133) (o := .cells #[.int .i64 t144, .int .i64 t145, .int .u64 t146, .string t147] 56 (0, 0)) (by (with_reducible repeat (first | refine blk_drewN ?_ _ | refine blk_drew ?_ | refine blk_alloc ?_ _)); refine blk_put (cs := #[.int .i64 t144, .int .i64 t145, .int .u64 t146, .string (⟨#[]⟩ : ByteArray)]) ?_ 3 _ rfl; (with_reducible repeat (first | refine blk_drewN ?_ _ | refine blk_drew ?_ | refine blk_alloc ?_ _)); refine blk_put (cs := #[.int .i64 t144, .int .i64 t145, .int .u64 0, .string (⟨#[]⟩ : ByteArray)]) ?_ 2 _ rfl; (with_reducible repeat (first | refine blk_drewN ?_ _ | refine blk_drew ?_ | refine blk_alloc ?_ _)); refine blk_put (cs := #[.int .i64 t144, .int .i64 0, .int .u64 0, .string (⟨#[]⟩ : ByteArray)]) ?_ 1 _ rfl; (with_reducible repeat (first | refine blk_drewN ?_ _ | refine blk_drew ?_ | refine blk_alloc ?_ _)); refine blk_put (cs := #[.int .i64 0, .int .i64 0, .int .u64 0, .string (⟨#[]⟩ : ByteArray)]) ?_ 0 _ rfl; (with_reducible repeat (first | refine blk_drewN ?_ _ | refine blk_drew ?_ | refine blk_alloc ?_ _)); refine blk_far ?_ NB133_149.out _; (with_reducible repeat (first | refine blk_drewN ?_ _ | refine blk_drew ?_ | refine blk_alloc ?_ _)); refine blk_far ?_ NB133_149.out _; (with_reducible repeat (first | refine blk_drewN ?_ _ | refine blk_drew ?_ | refine blk_alloc ?_ _)); refine blk_far ?_ NB133_149.out _; (with_reducible repeat (first | refine blk_drewN ?_ _ | refine blk_drew ?_ | refine blk_alloc ?_ _)); refine blk_far ?_ NB133_149.out _; (with_reducible repeat (first | refine blk_drewN ?_ _ | refine blk_drew ?_ | refine blk_alloc ?_ _)); exact BK133.out) k_ hk, Kd.freshB (g := gb149) (o := .cells #[.int .i64 t144, .int .i64 t145, .int .u64 t146, .string t147] 56 (0, 0)) (by (with_reducible repeat (first | refine blk_drewN ?_ _ | refine blk_drew ?_ | refine blk_alloc ?_ _)); refine blk_far ?_ NB149_133.out _; (with_reducible repeat (first | refine blk_drewN ?_ _ | refine blk_drew ?_ | refine blk_alloc ?_ _)); refine blk_far ?_ NB149_133.out _; (with_reducible repeat (first | refine blk_drewN ?_ _ | refine blk_drew ?_ | refine blk_alloc ?_ _)); refine blk_far ?_ NB149_133.out _; (with_reducible repeat (first | refine blk_drewN ?_ _ | refine blk_drew ?_ | refine blk_alloc ?_ _)); refine blk_far ?_ NB149_133.out _; (with_reducible repeat (first | refine blk_drewN ?_ _ | refine blk_drew ?_ | refine blk_alloc ?_ _)); refine blk_put (cs := #[.int .i64 t144, .int .i64 t145, .int .u64 t146, .string (⟨#[]⟩ : ByteArray)]) ?_ 3 _ rfl; (with_reducible repeat (first | refine blk_drewN ?_ _ | refine blk_drew ?_ | refine blk_alloc ?_ _)); refine blk_put (cs := #[.int .i64 t144, .int .i64 t145, .int .u64 0, .string (⟨#[]⟩ : ByteArray)]) ?_ 2 _ rfl; (with_reducible repeat (first | refine blk_drewN ?_ _ | refine blk_drew ?_ | refine blk_alloc ?_ _)); refine blk_put (cs := #[.int .i64 t144, .int .i64 0, .int .u64 0, .string (⟨#[]⟩ : ByteArray)]) ?_ 1 _ rfl; (with_reducible repeat (first | refine blk_drewN ?_ _ | refine blk_drew ?_ | refine blk_alloc ?_ _)); refine blk_put (cs := #[.int .i64 0, .int .i64 0, .int .u64 0, .string (⟨#[]⟩ : ByteArray)]) ?_ 0 _ rfl; (with_reducible repeat (first | refine blk_drewN ?_ _ | refine blk_drew ?_ | refine blk_alloc ?_ _)); exact BK149.out) k_ hk⟩)); (case aO => exact (by (with_reducible repeat (first | apply Kd.R_alloc | apply Kd.R_drewN | apply Kd.R_drew)); exact Kd.R_mono (Kd.R_far (p := ⟨gb133, 3, none⟩) (Kd.R_far (p := ⟨gb133, 2, none⟩) (Kd.R_far (p := ⟨gb133, 1, none⟩) (Kd.R_far (p := ⟨gb133, 0, none⟩) (Kd.R_far (p := ⟨gb149, 3, none⟩) (Kd.R_far (p := ⟨gb149, 2, none⟩) (Kd.R_far (p := ⟨gb149, 1, none⟩) (Kd.R_far (p := ⟨gb149, 0, none⟩) (Kd.R_mono (Kd.R_mono HO_4.out (fun k_ hk => (⟨hk, hk.2⟩ : _ ∧ k_ ≠ gb149))) (fun k_ hk => (⟨hk, hk.1.1.2⟩ : _ ∧ k_ ≠ gb133))) (fun _ hk => hk.1.2) (.int .i64 t144)) (fun _ hk => hk.1.2) (.int .i64 t145)) (fun _ hk => hk.1.2) (.int .u64 t146)) (fun _ hk => hk.1.2) (.string t147)) (fun _ hk => hk.2) (.int .i64 t144)) (fun _ hk => hk.2) (.int .i64 t145)) (fun _ hk => hk.2) (.int .u64 t146)) (fun _ hk => hk.2) (.string t147)) (fun _ hk => ⟨hk.1.1.1.2, hk.1.1.2⟩))); (case aS => exact (below_size (by repeat (first | (with_reducible first | exact HB.out | apply below_alloc | apply pw_below_drewN | apply below_drew1 | refine below_set ?_ GE133.out | refine below_set ?_ GE149.out) | exact HB.out)))); (case aL => have := LMc42.out; omega); intro v151 w51 ho hb hg hat; rw [← Ny150.out] at ho; have n0_ := Aside0.mk (blk_grown (g := gb133) (o := .cells #[.int .i64 t144, .int .i64 t145, .int .u64 t146, .string t147] 56 (0, 0)) (by (with_reducible repeat (first | refine blk_drewN ?_ _ | refine blk_drew ?_ | refine blk_alloc ?_ _)); refine blk_put (cs := #[.int .i64 t144, .int .i64 t145, .int .u64 t146, .string (⟨#[]⟩ : ByteArray)]) ?_ 3 _ rfl; (with_reducible repeat (first | refine blk_drewN ?_ _ | refine blk_drew ?_ | refine blk_alloc ?_ _)); refine blk_put (cs := #[.int .i64 t144, .int .i64 t145, .int .u64 0, .string (⟨#[]⟩ : ByteArray)]) ?_ 2 _ rfl; (with_reducible repeat (first | refine blk_drewN ?_ _ | refine blk_drew ?_ | refine blk_alloc ?_ _)); refine blk_put (cs := #[.int .i64 t144, .int .i64 0, .int .u64 0, .string (⟨#[]⟩ : ByteArray)]) ?_ 1 _ rfl; (with_reducible repeat (first | refine blk_drewN ?_ _ | refine blk_drew ?_ | refine blk_alloc ?_ _)); refine blk_put (cs := #[.int .i64 0, .int .i64 0, .int .u64 0, .string (⟨#[]⟩ : ByteArray)]) ?_ 0 _ rfl; (with_reducible repeat (first | refine blk_drewN ?_ _ | refine blk_drew ?_ | refine blk_alloc ?_ _)); refine blk_far ?_ NB133_149.out _; (with_reducible repeat (first | refine blk_drewN ?_ _ | refine blk_drew ?_ | refine blk_alloc ?_ _)); refine blk_far ?_ NB133_149.out _; (with_reducible repeat (first | refine blk_drewN ?_ _ | refine blk_drew ?_ | refine blk_alloc ?_ _)); refine blk_far ?_ NB133_149.out _; (with_reducible repeat (first | refine blk_drewN ?_ _ | refine blk_drew ?_ | refine blk_alloc ?_ _)); refine blk_far ?_ NB133_149.out _; (with_reducible repeat (first | refine blk_drewN ?_ _ | refine blk_drew ?_ | refine blk_alloc ?_ _)); exact BK133.out) hg (Kd.R_away HO_4.out (fun _ hk => hk.1.2))); have n1_ := Aside0.mk (blk_grown (g := gb149) (o := .cells #[.int .i64 t144, .int .i64 t145, .int .u64 t146, .string t147] 56 (0, 0)) (by (with_reducible repeat (first | refine blk_drewN ?_ _ | refine blk_drew ?_ | refine blk_alloc ?_ _)); refine blk_far ?_ NB149_133.out _; (with_reducible repeat (first | refine blk_drewN ?_ _ | refine blk_drew ?_ | refine blk_alloc ?_ _)); refine blk_far ?_ NB149_133.out _; (with_reducible repeat (first | refine blk_drewN ?_ _ | refine blk_drew ?_ | refine blk_alloc ?_ _)); refine blk_far ?_ NB149_133.out _; (with_reducible repeat (first | refine blk_drewN ?_ _ | refine blk_drew ?_ | refine blk_alloc ?_ _)); refine blk_far ?_ NB149_133.out _; (with_reducible repeat (first | refine blk_drewN ?_ _ | refine blk_drew ?_ | refine blk_alloc ?_ _)); refine blk_put (cs := #[.int .i64 t144, .int .i64 t145, .int .u64 t146, .string (⟨#[]⟩ : ByteArray)]) ?_ 3 _ rfl; (with_reducible repeat (first | refine blk_drewN ?_ _ | refine blk_drew ?_ | refine blk_alloc ?_ _)); refine blk_put (cs := #[.int .i64 t144, .int .i64 t145, .int .u64 0, .string (⟨#[]⟩ : ByteArray)]) ?_ 2 _ rfl; (with_reducible repeat (first | refine blk_drewN ?_ _ | refine blk_drew ?_ | refine blk_alloc ?_ _)); refine blk_put (cs := #[.int .i64 t144, .int .i64 0, .int .u64 0, .string (⟨#[]⟩ : ByteArray)]) ?_ 1 _ rfl; (with_reducible repeat (first | refine blk_drewN ?_ _ | refine blk_drew ?_ | refine blk_alloc ?_ _)); refine blk_put (cs := #[.int .i64 0, .int .i64 0, .int .u64 0, .string (⟨#[]⟩ : ByteArray)]) ?_ 0 _ rfl; (with_reducible repeat (first | refine blk_drewN ?_ _ | refine blk_drew ?_ | refine blk_alloc ?_ _)); exact BK149.out) hg (Kd.R_away HO_4.out (fun _ hk => hk.2))); have n2_ := Aside0.mk (hb); have n3_ := Aside0.mk (ho); clear BK133; clear BK149; clear HB; clear HO_4; have BK133 := n0_; have BK149 := n1_; have HB := n2_; have HO152 := n3_; clear n0_ n1_ n2_ n3_; clear ho hb hg hat))
                              go_roundg k1
                              case measure => have := HK1.out; omega
                              case rel => exact ⟨(y150), (wrap64 ((ji36) + 8)), (by first | rfl | (simp; done) | (simp only [← hji36] <;> (first | rfl | simp)) | (simp [*]; done)), H', ⟨by have := HK1.out; omega⟩, ⟨by (with_reducible repeat (first | apply Kd.R_alloc | apply Kd.R_drewN | apply Kd.R_drew)); exact Kd.R_mono HO152.out (fun _ hk => trivial)⟩, ⟨by repeat (first | (with_reducible first | exact HB.out | apply below_alloc | apply pw_below_drewN | apply below_drew1 | refine below_set ?_ GE133.out | refine below_set ?_ GE149.out) | exact HB.out)⟩⟩
                            · rw [if_neg c42] at H
                              exact absurd H (by simp)
                          · rw [if_neg c41] at H
                            have c41b0 : (t148 == 0) = false := beq_eq_false_iff_ne.mpr c41
                            have c41b1 : (t148 != 0) = true := bne_iff_ne.mpr c41
                            simp only [Option.some.injEq, Prod.mk.injEq] at H
                            obtain ⟨rfl, rfl⟩ := H
                            obtain ⟨Ao52, co52, eo52⟩ := Kd.R_slice HO_4.out
                            subst eo52
                            have p8 : 0 ≤ (x5_1 : Int) := of_decide_eq_true (by first | (with_reducible assumption) | assumption)
                            have q8 : x5_1 < (a0.size : Int) := of_decide_eq_true (by first | (with_reducible assumption) | assumption)
                            have hx8 := bt_at a0 x5_1
                            replace p8 := eq_true p8
                            replace q8 := eq_true q8
                            go_wp2_with (first | ((with_reducible refine gate_dst (N := 7) rfl ?_); refine box_event ?hg (N := 7) ?hd (cs := #[.int .i64 0, .int .i64 0, .int .u64 0, .string (⟨#[]⟩ : ByteArray)]) (t := 56) ?hr ?_; (case hd => rfl); (case hg => rfl); (case hr => first | (go_simp; done) | (go_simp; rfl)); intro gb133 hg w53 hbox hb; have n0_ := Aside0.mk (Kd.R_below (Kd.R_elderB (by (with_reducible repeat (first | apply Kd.R_alloc | apply Kd.R_drewN | apply Kd.R_drew)); exact HO_4.out) gb133 (Nat.le_of_eq hg.symm)) hb); have n1_ := Aside0.mk (below_step (by repeat (first | (with_reducible first | exact HB.out | apply below_alloc | apply pw_below_drewN | apply below_drew1) | exact HB.out)) hb); have n2_ := Aside0.mk (hbox); have n3_ := Aside0.mk ((by rw [hg]; exact (below_size (by repeat (first | (with_reducible first | exact HB.out | apply below_alloc | apply pw_below_drewN | apply below_drew1) | exact HB.out))) : w.heap.size ≤ gb133)); have n4_ := Aside0.mk ((by rw [hg]; exact (below_size (by repeat (first | (with_reducible first | exact HB.out | apply below_alloc | apply pw_below_drewN | apply below_drew1) | exact HB.out))) : w.heap.size ≤ gb133)); clear HO_4; clear HB; have HO_4 := n0_; have HB := n1_; have BK133 := n2_; have GW133 := n3_; have GE133 := n4_; clear n0_ n1_ n2_ n3_ n4_; clear hb hbox hg; have hcz54_0 : w53.cell? ⟨gb133, 0, none⟩ = some (.int .i64 0) := (blk_cell BK133.out 0).trans rfl; have hcz54_1 : w53.cell? ⟨gb133, 1, none⟩ = some (.int .i64 0) := (blk_cell BK133.out 1).trans rfl; have hcz54_2 : w53.cell? ⟨gb133, 2, none⟩ = some (.int .u64 0) := (blk_cell BK133.out 2).trans rfl; have hcz54_3 : w53.cell? ⟨gb133, 3, none⟩ = some (.string (⟨#[]⟩ : ByteArray)) := (blk_cell BK133.out 3).trans rfl; have hfz54_0 := blk_frozen BK133.out 0; have hfz54_1 := blk_frozen BK133.out 1; have hfz54_2 := blk_frozen BK133.out 2; have hfz54_3 := blk_frozen BK133.out 3) | ((with_reducible refine gate_callee (f := 50) rfl ?_); refine goesL_ (some 58) rfl rfl Tryd.func50 (by kernel_rfl) rfl #[.int .i64 (wrap64 (bt a0 x5_1)), .string (a0.extract ((ji36) : Int).toNat ((wrap64 ((ji36) + 8)) : Int).toNat)] rfl (by (try simp only [List.map_toArray, List.map_cons, List.map_nil]); first | done | (simp only [hji36]; rfl) | rfl | (simp only [List.length_drop, List.length_take]; rfl)) ?_; (with_reducible refine (xrNumber.calls (wrap64 (bt a0 x5_1)) (a0.extract ((ji36) : Int).toNat ((wrap64 ((ji36) + 8)) : Int).toNat) t144 t145 t146 t147 t148 _ A40.out).mono ?_); rintro e w55 ⟨rfl, hb⟩; refine ⟨_, rfl, ?_⟩; have n0_ := Aside0.mk (Kd.R_below (by (with_reducible repeat (first | apply Kd.R_alloc | apply Kd.R_drewN | apply Kd.R_drew)); exact (Kd.R_mono (Kd.R_far (p := ⟨gb133, 3, none⟩) (Kd.R_far (p := ⟨gb133, 2, none⟩) (Kd.R_far (p := ⟨gb133, 1, none⟩) (Kd.R_far (p := ⟨gb133, 0, none⟩) (Kd.R_mono HO_4.out (fun k_ hk => (⟨hk, hk.2⟩ : _ ∧ k_ ≠ gb133))) (fun _ hk => hk.2) (.int .i64 0)) (fun _ hk => hk.2) (.int .i64 0)) (fun _ hk => hk.2) (.int .u64 0)) (fun _ hk => hk.2) (.string (⟨#[]⟩ : ByteArray))) (fun _ h_ => h_.1))) hb); have n1_ := Aside0.mk (blk_below (g := gb133) (o := .cells #[.int .i64 0, .int .i64 0, .int .u64 0, .string (⟨#[]⟩ : ByteArray)] 56 (0, 0)) (by (with_reducible repeat (first | refine blk_drewN ?_ _ | refine blk_drew ?_ | refine blk_alloc ?_ _)); refine blk_put (cs := #[.int .i64 0, .int .i64 0, .int .u64 0, .string (⟨#[]⟩ : ByteArray)]) ?_ 3 _ rfl; (with_reducible repeat (first | refine blk_drewN ?_ _ | refine blk_drew ?_ | refine blk_alloc ?_ _)); refine blk_put (cs := #[.int .i64 0, .int .i64 0, .int .u64 0, .string (⟨#[]⟩ : ByteArray)]) ?_ 2 _ rfl; (with_reducible repeat (first | refine blk_drewN ?_ _ | refine blk_drew ?_ | refine blk_alloc ?_ _)); refine blk_put (cs := #[.int .i64 0, .int .i64 0, .int .u64 0, .string (⟨#[]⟩ : ByteArray)]) ?_ 1 _ rfl; (with_reducible repeat (first | refine blk_drewN ?_ _ | refine blk_drew ?_ | refine blk_alloc ?_ _)); refine blk_put (cs := #[.int .i64 0, .int .i64 0, .int .u64 0, .string (⟨#[]⟩ : ByteArray)]) ?_ 0 _ rfl; (with_reducible repeat (first | refine blk_drewN ?_ _ | refine blk_drew ?_ | refine blk_alloc ?_ _)); exact BK133.out) hb); have n2_ := Aside0.mk (below_step (by repeat (first | (with_reducible first | exact HB.out | apply below_alloc | apply pw_below_drewN | apply below_drew1 | refine below_set ?_ GE133.out) | exact HB.out)) hb); clear HO_4; clear BK133; clear HB; have HO_4 := n0_; have BK133 := n1_; have HB := n2_; clear n0_ n1_ n2_; (try clear hb); (try clear hb2); (try clear hk); (try clear hi)) | ((with_reducible refine gate_dst (N := 11) rfl ?_); refine box_event ?hg (N := 11) ?hd (cs := #[.int .i64 0, .int .i64 0, .int .u64 0, .string (⟨#[]⟩ : ByteArray)]) (t := 56) ?hr ?_; (case hd => rfl); (case hg => rfl); (case hr => first | (go_simp; done) | (go_simp; rfl)); intro gb149 hg w56 hbox hb; have n0_ := Aside0.mk (Kd.R_below (Kd.R_elderB (by (with_reducible repeat (first | apply Kd.R_alloc | apply Kd.R_drewN | apply Kd.R_drew)); exact HO_4.out) gb149 (Nat.le_of_eq hg.symm)) hb); have n1_ := Aside0.mk (blk_below (g := gb133) (o := .cells #[.int .i64 0, .int .i64 0, .int .u64 0, .string (⟨#[]⟩ : ByteArray)] 56 (0, 0)) (by (with_reducible repeat (first | refine blk_drewN ?_ _ | refine blk_drew ?_ | refine blk_alloc ?_ _)); exact BK133.out) hb); have n2_ := Aside0.mk (below_step (by repeat (first | (with_reducible first | exact HB.out | apply below_alloc | apply pw_below_drewN | apply below_drew1 | refine below_set ?_ GE133.out) | exact HB.out)) hb); have n3_ := Aside0.mk (hbox); have n4_ := Aside0.mk ((by rw [hg]; exact (below_size (by repeat (first | (with_reducible first | exact HB.out | apply below_alloc | apply pw_below_drewN | apply below_drew1 | refine below_set ?_ GE133.out) | exact HB.out))) : w.heap.size ≤ gb149)); have n5_ := Aside0.mk ((by rw [hg]; exact (below_size (by repeat (first | (with_reducible first | exact HB.out | apply below_alloc | apply pw_below_drewN | apply below_drew1 | refine below_set ?_ GE133.out) | exact HB.out))) : w.heap.size ≤ gb149)); have n6_ := Aside0.mk ((by rw [hg]; exact Nat.ne_of_lt (blk_lt (g := gb133) (o := .cells #[.int .i64 0, .int .i64 0, .int .u64 0, .string (⟨#[]⟩ : ByteArray)] 56 (0, 0)) (by (with_reducible repeat (first | refine blk_drewN ?_ _ | refine blk_drew ?_ | refine blk_alloc ?_ _)); exact BK133.out)) : gb133 ≠ gb149)); have n7_ := Aside0.mk ((by rw [hg]; exact Nat.ne_of_gt (blk_lt (g := gb133) (o := .cells #[.int .i64 0, .int .i64 0, .int .u64 0, .string (⟨#[]⟩ : ByteArray)] 56 (0, 0)) (by (with_reducible repeat (first | refine blk_drewN ?_ _ | refine blk_drew ?_ | refine blk_alloc ?_ _)); exact BK133.out)) : gb149 ≠ gb133)); clear HO_4; clear BK133; clear HB; have HO_4 := n0_; have BK133 := n1_; have HB := n2_; have BK149 := n3_; have GW149 := n4_; have GE149 := n5_; have NB133_149 := n6_; have NB149_133 := n7_; clear n0_ n1_ n2_ n3_ n4_ n5_ n6_ n7_; clear hb hbox hg; have hnb57 := NB149_133.out; have hnc57 := NB133_149.out; have hcz58_0 : w56.cell? ⟨gb149, 0, none⟩ = some (.int .i64 0) := (blk_cell BK149.out 0).trans rfl; have hcz58_1 : w56.cell? ⟨gb149, 1, none⟩ = some (.int .i64 0) := (blk_cell BK149.out 1).trans rfl; have hcz58_2 : w56.cell? ⟨gb149, 2, none⟩ = some (.int .u64 0) := (blk_cell BK149.out 2).trans rfl; have hcz58_3 : w56.cell? ⟨gb149, 3, none⟩ = some (.string (⟨#[]⟩ : ByteArray)) := (blk_cell BK149.out 3).trans rfl; have hfz58_0 := blk_frozen BK149.out 0; have hfz58_1 := blk_frozen BK149.out 1; have hfz58_2 := blk_frozen BK149.out 2; have hfz58_3 := blk_frozen BK149.out 3))
                            go_ret2
                            exact ⟨_, by first | rfl | (simp [errW_none, errW_some] <;> rfl) | (simp only [← hji36]; first | rfl | (simp [errW_none, errW_some] <;> rfl)) | (simp [*, errW_none, errW_some] <;> rfl), by first | exact Kd.R_nil _ _ _ _ _ | exact Kd.N_nil _ _ _ _ _ | exact Kd.V_nil _ _ _ _ _ | exact Kd.Q_nil _ _ _ _ _ | exact Kd.S_nil _ _ _ _ _, by repeat (first | (with_reducible first | exact HB.out | apply below_alloc | apply pw_below_drewN | apply below_drew1 | refine below_set ?_ GE133.out | refine below_set ?_ GE149.out) | exact HB.out)⟩
                        · rw [if_neg c39] at H
                          exact absurd H (by simp)
                      · rw [if_neg c38] at H
                        exact absurd H (by simp)
                    · rw [if_neg c37] at H
                      exact absurd H (by simp)
                · rw [if_neg c31] at H
                  have c31b0 : decide (0 < (wrap64 (bt a0 x5_1))) = false := decide_eq_false c31
                  clear c31
                  by_cases c59 : x4_1.length < 3518437208883
                  · rw [if_pos c59] at H
                    have LMc59 := Aside0.mk c59
                    clear c59
                    obtain ⟨y153, hy153⟩ : ∃ y_ : List (S56), y_ = (x4_1 ++ [(⟨0, 0, 0, (⟨#[]⟩ : ByteArray)⟩ : S56)]) := ⟨_, rfl⟩
                    replace H : (freshetref02_Decode.l0 k1 a0 y153 (wrap64 (x5_1 + 1))) = some (r1, r2) := by first | (rw [hy153]; with_reducible exact H) | (have H2_ := (Option.bind_some _ _).symm.trans H; rw [hy153]; with_reducible exact H2_) | (have H2_ := (Option.bind_some _ _).symm.trans H; with_reducible exact H2_) | with_reducible exact H | (rw [hy153]; exact H) | exact H
                    have Ny153 := Aside0.mk hy153
                    clear hy153
                    have H' := Aside0.mk H
                    clear H
                    obtain ⟨Ao60, co60, eo60⟩ := Kd.R_slice HO_4.out
                    subst eo60
                    have p8 : 0 ≤ (x5_1 : Int) := of_decide_eq_true (by first | (with_reducible assumption) | assumption)
                    have q8 : x5_1 < (a0.size : Int) := of_decide_eq_true (by first | (with_reducible assumption) | assumption)
                    have hx8 := bt_at a0 x5_1
                    replace p8 := eq_true p8
                    replace q8 := eq_true q8
                    go_wp2_with (first | ((with_reducible refine gate_dst (N := 7) rfl ?_); refine box_event ?hg (N := 7) ?hd (cs := #[.int .i64 0, .int .i64 0, .int .u64 0, .string (⟨#[]⟩ : ByteArray)]) (t := 56) ?hr ?_; (case hd => rfl); (case hg => rfl); (case hr => first | (go_simp; done) | (go_simp; rfl)); intro gb133 hg w61 hbox hb; have n0_ := Aside0.mk (Kd.R_below (Kd.R_elderB (by (with_reducible repeat (first | apply Kd.R_alloc | apply Kd.R_drewN | apply Kd.R_drew)); exact HO_4.out) gb133 (Nat.le_of_eq hg.symm)) hb); have n1_ := Aside0.mk (below_step (by repeat (first | (with_reducible first | exact HB.out | apply below_alloc | apply pw_below_drewN | apply below_drew1) | exact HB.out)) hb); have n2_ := Aside0.mk (hbox); have n3_ := Aside0.mk ((by rw [hg]; exact (below_size (by repeat (first | (with_reducible first | exact HB.out | apply below_alloc | apply pw_below_drewN | apply below_drew1) | exact HB.out))) : w.heap.size ≤ gb133)); have n4_ := Aside0.mk ((by rw [hg]; exact (below_size (by repeat (first | (with_reducible first | exact HB.out | apply below_alloc | apply pw_below_drewN | apply below_drew1) | exact HB.out))) : w.heap.size ≤ gb133)); clear HO_4; clear HB; have HO_4 := n0_; have HB := n1_; have BK133 := n2_; have GW133 := n3_; have GE133 := n4_; clear n0_ n1_ n2_ n3_ n4_; clear hb hbox hg; have hcz62_0 : w61.cell? ⟨gb133, 0, none⟩ = some (.int .i64 0) := (blk_cell BK133.out 0).trans rfl; have hcz62_1 : w61.cell? ⟨gb133, 1, none⟩ = some (.int .i64 0) := (blk_cell BK133.out 1).trans rfl; have hcz62_2 : w61.cell? ⟨gb133, 2, none⟩ = some (.int .u64 0) := (blk_cell BK133.out 2).trans rfl; have hcz62_3 : w61.cell? ⟨gb133, 3, none⟩ = some (.string (⟨#[]⟩ : ByteArray)) := (blk_cell BK133.out 3).trans rfl; have hfz62_0 := blk_frozen BK133.out 0; have hfz62_1 := blk_frozen BK133.out 1; have hfz62_2 := blk_frozen BK133.out 2; have hfz62_3 := blk_frozen BK133.out 3) | ((with_reducible refine gate_builtin (b := .append) (xs := #[.tmp 67, .tmp 69]) rfl ?_); at_builtin; refine Kd.R_append k56 (w0 := w) w.heap.size rfl (.tmp 67) (.tmp 69) 33 56 (.agg #[(.int .i64 0), (.int .i64 0), (.int .u64 0), (.string ⟨#[]⟩)]) 40 rfl Tryd.underlying33 info56 rfl (by decide) (by omega) (.slice Ao60 x4_1.length co60) x4_1 (⟨0, 0, 0, (⟨#[]⟩ : ByteArray)⟩ : S56) [.int .i64 0, .int .i64 0, .int .u64 0, .string (⟨#[]⟩ : ByteArray)] (fun k_ => k_ ≠ gb133) (fun _ => False) rfl (by first | (go_simp; done) | (go_simp; rfl)) ?aP (fun _ hk => hk.elim) ?aF ?aO ?aB ?aS ?aL ?_; (case aP => exact k56_mkM _ _ _ (⟨0, 0, 0, (⟨#[]⟩ : ByteArray)⟩ : S56)); (case aB => exact (by repeat (first | (with_reducible first | exact HB.out | apply below_alloc | apply pw_below_drewN | apply below_drew1 | refine below_set ?_ GE133.out) | exact HB.out))); (case aF => exact (fun k_ hk => Kd.freshB (g := gb133) (o := .cells #[.int .i64 0, .int .i64 0, .int .u64 0, .string (⟨#[]⟩ : ByteArray)] 56 (0, 0)) (by (with_reducible repeat (first | refine blk_drewN ?_ _ | refine blk_drew ?_ | refine blk_alloc ?_ _)); refine blk_put (cs := #[.int .i64 0, .int .i64 0, .int .u64 0, .string (⟨#[]⟩ : ByteArray)]) ?_ 3 _ rfl; (with_reducible repeat (first | refine blk_drewN ?_ _ | refine blk_drew ?_ | refine blk_alloc ?_ _)); refine blk_put (cs := #[.int .i64 0, .int .i64 0, .int .u64 0, .string (⟨#[]⟩ : ByteArray)]) ?_ 2 _ rfl; (with_reducible repeat (first | refine blk_drewN ?_ _ | refine blk_drew ?_ | refine blk_alloc ?_ _)); refine blk_put (cs := #[.int .i64 0, .int .i64 0, .int .u64 0, .string (⟨#[]⟩ : ByteArray)]) ?_ 1 _ rfl; (with_reducible repeat (first | refine blk_drewN ?_ _ | refine blk_drew ?_ | refine blk_alloc ?_ _)); refine blk_put (cs := #[.int .i64 0, .int .i64 0, .int .u64 0, .string (⟨#[]⟩ : ByteArray)]) ?_ 0 _ rfl; (with_reducible repeat (first | refine blk_drewN ?_ _ | refine blk_drew ?_ | refine blk_alloc ?_ _)); exact BK133.out) k_ hk)); (case aO => exact (by (with_reducible repeat (first | apply Kd.R_alloc | apply Kd.R_drewN | apply Kd.R_drew)); exact Kd.R_mono (Kd.R_far (p := ⟨gb133, 3, none⟩) (Kd.R_far (p := ⟨gb133, 2, none⟩) (Kd.R_far (p := ⟨gb133, 1, none⟩) (Kd.R_far (p := ⟨gb133, 0, none⟩) (Kd.R_mono HO_4.out (fun k_ hk => (⟨hk, hk.2⟩ : _ ∧ k_ ≠ gb133))) (fun _ hk => hk.2) (.int .i64 0)) (fun _ hk => hk.2) (.int .i64 0)) (fun _ hk => hk.2) (.int .u64 0)) (fun _ hk => hk.2) (.string (⟨#[]⟩ : ByteArray))) (fun _ hk => hk.1.2))); (case aS => exact (below_size (by repeat (first | (with_reducible first | exact HB.out | apply below_alloc | apply pw_below_drewN | apply below_drew1 | refine below_set ?_ GE133.out) | exact HB.out)))); (case aL => have := LMc59.out; omega); intro v154 w63 ho hb hg hat; rw [← Ny153.out] at ho; have n0_ := Aside0.mk (blk_grown (g := gb133) (o := .cells #[.int .i64 0, .int .i64 0, .int .u64 0, .string (⟨#[]⟩ : ByteArray)] 56 (0, 0)) (by (with_reducible repeat (first | refine blk_drewN ?_ _ | refine blk_drew ?_ | refine blk_alloc ?_ _)); refine blk_put (cs := #[.int .i64 0, .int .i64 0, .int .u64 0, .string (⟨#[]⟩ : ByteArray)]) ?_ 3 _ rfl; (with_reducible repeat (first | refine blk_drewN ?_ _ | refine blk_drew ?_ | refine blk_alloc ?_ _)); refine blk_put (cs := #[.int .i64 0, .int .i64 0, .int .u64 0, .string (⟨#[]⟩ : ByteArray)]) ?_ 2 _ rfl; (with_reducible repeat (first | refine blk_drewN ?_ _ | refine blk_drew ?_ | refine blk_alloc ?_ _)); refine blk_put (cs := #[.int .i64 0, .int .i64 0, .int .u64 0, .string (⟨#[]⟩ : ByteArray)]) ?_ 1 _ rfl; (with_reducible repeat (first | refine blk_drewN ?_ _ | refine blk_drew ?_ | refine blk_alloc ?_ _)); refine blk_put (cs := #[.int .i64 0, .int .i64 0, .int .u64 0, .string (⟨#[]⟩ : ByteArray)]) ?_ 0 _ rfl; (with_reducible repeat (first | refine blk_drewN ?_ _ | refine blk_drew ?_ | refine blk_alloc ?_ _)); exact BK133.out) hg (Kd.R_away HO_4.out (fun _ hk => hk.2))); have n1_ := Aside0.mk (hb); have n2_ := Aside0.mk (ho); clear BK133; clear HB; clear HO_4; have BK133 := n0_; have HB := n1_; have HO155 := n2_; clear n0_ n1_ n2_; clear ho hb hg hat))
                    go_roundg k1
                    case measure => have := HK1.out; omega
                    case rel => exact ⟨(y153), (wrap64 (x5_1 + 1)), (by first | rfl | (simp; done) | (simp [*]; done)), H', ⟨by have := HK1.out; omega⟩, ⟨by (with_reducible repeat (first | apply Kd.R_alloc | apply Kd.R_drewN | apply Kd.R_drew)); exact Kd.R_mono HO155.out (fun _ hk => trivial)⟩, ⟨by repeat (first | (with_reducible first | exact HB.out | apply below_alloc | apply pw_below_drewN | apply below_drew1 | refine below_set ?_ GE133.out) | exact HB.out)⟩⟩
                  · rw [if_neg c59] at H
                    exact absurd H (by simp)
          · rw [if_neg c7] at H
            exact absurd H (by simp)
      · rw [if_neg c4] at H
        have c4b0 : decide (x5_1 < (a0.size : Int)) = false := decide_eq_false c4
        clear c4
        simp only [Option.some.injEq, Prod.mk.injEq] at H
        obtain ⟨rfl, rfl⟩ := H
        go_wp2
        go_ret2
        exact ⟨_, by first | rfl | (simp [errW_none, errW_some] <;> rfl) | (simp [*, errW_none, errW_some] <;> rfl), by (with_reducible repeat (first | apply Kd.R_alloc | apply Kd.R_drewN | apply Kd.R_drew)); exact HO_4.out, by repeat (first | (with_reducible first | exact HB.out | apply below_alloc | apply pw_below_drewN | apply below_drew1) | exact HB.out)⟩

end Go.Proofs.YthpkjkcfhipjhaaDoor.PRW
