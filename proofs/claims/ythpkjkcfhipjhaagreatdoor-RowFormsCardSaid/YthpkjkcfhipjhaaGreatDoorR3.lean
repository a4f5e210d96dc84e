/- slices.CompareFunc over rows of values; row.Compare. -/
import Derived.Test.YthpkjkcfhipjhaaGreatDoorR2
import Derived.Test.YthpkjkcfhipjhaaGreatDoorMC
namespace Go.Proofs.YthpkjkcfhipjhaaGreatDoor
set_option linter.unusedVariables false
set_option linter.unusedSimpArgs false
open Go.RowKit Go.Proofs.YthpkjkcfhipjhaaGreatDoorW.PrintWords Go.Proofs.YthpkjkcfhipjhaaGreatDoorW.PrintLast PRW

def toV (x : S64) : V := ⟨x.f0, x.f1, x.f2, x.f3⟩

theorem enter_compare : ∀ args w, (callFunc 70 args).run Tryz.prog w = .ok (.enter 70 args) w := by
  intro args w
  simp [go_sem, Tryz.func70]

set_option maxRecDepth 100000 in
set_option maxHeartbeats 2000000 in
theorem compareFunc_c (A0 A1 : Option Addr) (c0 c1 : Nat) (l m : List S64) (w : World)
    (hr : Kd.C k64 w A0 l.length l) (hm : Kd.C k64 w A1 m.length m) (hI : ∀ x ∈ l, I64 x.f1) (hJ : ∀ x ∈ m, I64 x.f1) :
    Calls Tryz.prog 69 #[.slice A0 l.length c0, .slice A1 m.length c1, .func (.func 70) #[] #[]] w fun e w' => e = .returned (.int .i64 (cmpL (l.map toV) (m.map toV))) ∧ Below w.heap.size w w' := by
  have HR := hidF hr
  have HM := hidF hm
  have HI := hidF hI
  have HJ := hidF hJ
  have hl : l.length ≤ 9223372036854775807 := hr.2.1
  have hml : m.length ≤ 9223372036854775807 := hm.2.1
  clear hr hI hm hJ
  have hu := Tryz.underlying64
  have eg := enter_compare
  go_enter Tryz.func69, Tryz.ntmps69
  go_wp2
  go_loopw [13] (fun v wr => ∃ c : Int, v = Value.int .i64 c ∧ 0 ≤ c ∧ c ≤ l.length ∧ c ≤ m.length ∧ Below w.heap.size w wr ∧ Hid (cmpL (l.map toV) (m.map toV) = cmpL ((l.drop c.toNat).map toV) ((m.drop c.toNat).map toV))) (fun v _ => l.length - natOf v)
  case atStart => exact ⟨0, rfl, by omega, by omega, by omega, Below.refl _ _, hidF (by simp)⟩
  case round =>
    obtain ⟨c, rfl, hc0, hcl, hcm, HB, hE⟩ := hrel
    by_cases hlt : c < l.length
    · have hx := HI.out _ (rd_mem l c hc0 hlt)
      have hD := hidF (drop_rd l c hc0 hlt)
      obtain ⟨ad, e, h0, h1, h2, h3⟩ := at_T64 HR.out c hc0 hlt
      cases e
      replace h0 := (HB.cell (World.block_lt_of_cell? w _ h0)).trans h0
      replace h1 := (HB.cell (World.block_lt_of_cell? w _ h1)).trans h1
      replace h2 := (HB.cell (World.block_lt_of_cell? w _ h2)).trans h2
      replace h3 := (HB.cell (World.block_lt_of_cell? w _ h3)).trans h3
      by_cases hlt2 : c < m.length
      · have hy := HJ.out _ (rd_mem m c hc0 hlt2)
        have hD2 := hidF (drop_rd m c hc0 hlt2)
        obtain ⟨bd, e2, g0, g1, g2, g3⟩ := at_T64 HM.out c hc0 hlt2
        cases e2
        replace g0 := (HB.cell (World.block_lt_of_cell? w _ g0)).trans g0
        replace g1 := (HB.cell (World.block_lt_of_cell? w _ g1)).trans g1
        replace g2 := (HB.cell (World.block_lt_of_cell? w _ g2)).trans g2
        replace g3 := (HB.cell (World.block_lt_of_cell? w _ g3)).trans g3
        have CS := fun W => compare_c (rd_T64 l c).f0 (rd_T64 l c).f1 (rd_T64 l c).f2 (rd_T64 l c).f3 (rd_T64 m c).f0 (rd_T64 m c).f1 (rd_T64 m c).f2 (rd_T64 m c).f3 W hx hy
        obtain ⟨q, hq⟩ : ∃ q, cmpV (rd_T64 l c).f0 (rd_T64 l c).f1 (rd_T64 l c).f2 (rd_T64 l c).f3 (rd_T64 m c).f0 (rd_T64 m c).f1 (rd_T64 m c).f2 (rd_T64 m c).f3 = q := ⟨_, rfl⟩
        rw [hq] at CS
        have hcV : cV (toV (rd_T64 l c)) (toV (rd_T64 m c)) = q := hq
        have CS2 := hidF CS
        have l0 := World.block_lt_of_cell? wr _ h0
        have l1 := World.block_lt_of_cell? wr _ g0
        by_cases hq0 : q = 0
        · have hE2 : Hid (cmpL (l.map toV) (m.map toV) = cmpL ((l.drop (c + 1).toNat).map toV) ((m.drop (c + 1).toNat).map toV)) := hidF (by rw [hE.out, hD.out, hD2.out, List.map_cons, List.map_cons, cmpL, if_neg (by rw [hcV]; simpa using hq0)])
          have hb0 : (q != 0) = false := by simpa using hq0
          have HB2 := hidF HB; clear HB; have HB := HB2
          clear CS hE hx hy hq hcV hq0
          go_wp2_with (go_at_fn 70; (with_reducible refine (CS2.out _).mono ?_); rintro e w1 ⟨rfl, hb⟩)
          go_roundw
          case rel => exact ⟨c + 1, rfl, by omega, by omega, by omega, (by repeat (first | (with_reducible exact HB.out) | (with_reducible exact Below.refl _ _) | (with_reducible refine below_al ?_ _) | (with_reducible refine below_drewN ?_ _) | (with_reducible refine Below.drew ?_) | (with_reducible refine below_via (by assumption) ?_) | (with_reducible refine below_sc ?_ ?_ _; · (first | (simp; done) | (simp; omega) | omega)))), hE2⟩
          case measure => simp [natOf]; omega
        · have hE2 : Hid (cmpL (l.map toV) (m.map toV) = q) := hidF (by rw [hE.out, hD.out, hD2.out, List.map_cons, List.map_cons, cmpL, hcV, if_pos hq0])
          have hb0 : (q != 0) = true := by simpa using hq0
          have HB2 := hidF HB; clear HB; have HB := HB2
          clear CS hE hx hy hq hcV hq0
          go_wp2_with (go_at_fn 70; (with_reducible refine (CS2.out _).mono ?_); rintro e w1 ⟨rfl, hb⟩)
          go_ret
          exact ⟨by rw [hE2.out] <;> rfl, (by repeat (first | (with_reducible exact HB.out) | (with_reducible exact Below.refl _ _) | (with_reducible refine below_al ?_ _) | (with_reducible refine below_drewN ?_ _) | (with_reducible refine Below.drew ?_) | (with_reducible refine below_via (by assumption) ?_) | (with_reducible refine below_sc ?_ ?_ _; · (first | (simp; done) | (simp; omega) | omega))))⟩
      · have hce : c = m.length := by omega
        have hE2 : Hid (cmpL (l.map toV) (m.map toV) = 1) := hidF (by rw [hE.out, hD.out, List.drop_of_length_le (l := m) (by omega)]; rfl)
        have hd : decide (c ≥ (m.length : Int)) = true := decide_eq_true (by omega)
        have HB2 := hidF HB; clear HB; have HB := HB2
        clear hce hE hx
        go_wp2
        go_ret
        exact ⟨by rw [hE2.out] <;> rfl, (by repeat (first | (with_reducible exact HB.out) | (with_reducible exact Below.refl _ _) | (with_reducible refine below_al ?_ _) | (with_reducible refine below_drewN ?_ _) | (with_reducible refine Below.drew ?_) | (with_reducible refine below_via (by assumption) ?_) | (with_reducible refine below_sc ?_ ?_ _; · (first | (simp; done) | (simp; omega) | omega))))⟩
    · have hce : c = l.length := by omega
      by_cases hm2 : l.length < m.length
      · have hE2 : Hid (cmpL (l.map toV) (m.map toV) = -1) := hidF (by
          rw [hE.out, List.drop_of_length_le (l := l) (by omega)]
          have hlt2 : c < m.length := by omega
          rw [drop_rd m c hc0 hlt2]; rfl)
        have hd : decide (l.length < m.length) = true := decide_eq_true hm2
        have hd2 : decide ((l.length : Int) < m.length) = true := decide_eq_true (by omega)
        clear hce hE
        go_wp2
        go_ret
        exact ⟨by rw [hE2.out] <;> rfl, HB⟩
      · have hE2 : Hid (cmpL (l.map toV) (m.map toV) = 0) := hidF (by
          rw [hE.out, List.drop_of_length_le (l := l) (by omega), List.drop_of_length_le (l := m) (by omega)]; rfl)
        have hd : decide (l.length < m.length) = false := decide_eq_false hm2
        have hd2 : decide ((l.length : Int) < m.length) = false := decide_eq_false (by omega)
        clear hce hE
        go_wp2
        go_ret
        exact ⟨by rw [hE2.out] <;> rfl, HB⟩

/-- the order of raw rows -/
def cmpLS (l m : List S64) : Int := if soundL l && soundL m then cmpL (l.map toV) (m.map toV) else 0

set_option maxRecDepth 100000 in
theorem rowCompare_c (A0 A1 : Option Addr) (c0 c1 : Nat) (l m : List S64) (w : World)
    (hr : Kd.C k64 w A0 l.length l) (hm : Kd.C k64 w A1 m.length m) (hI : ∀ x ∈ l, I64 x.f1) (hJ : ∀ x ∈ m, I64 x.f1) :
    Calls Tryz.prog 31 #[.slice A0 l.length c0, .slice A1 m.length c1] w fun e w' => e = .returned (.int .i64 (cmpLS l m)) ∧ Below w.heap.size w w' := by
  have H1 := hidF (fun W (hb : Below w.heap.size w W) => rowSound_c A0 c0 l W (Kd.C_below hr hb) hI)
  have H2 := hidF (fun W (hb : Below w.heap.size w W) => rowSound_c A1 c1 m W (Kd.C_below hm hb) hJ)
  have H3 := hidF (fun W (hb : Below w.heap.size w W) => compareFunc_c A0 A1 c0 c1 l m W (Kd.C_below hr hb) (Kd.C_below hm hb) hI hJ)
  clear hr hI hm hJ
  unfold cmpLS
  cases h1 : soundL l
  · rw [h1] at H1
    clear h1
    go_enter Tryz.func31, Tryz.ntmps31
    go_wp2_with (go_at_call 29; (with_reducible refine (H1.out _ (by repeat (first | (with_reducible exact Below.refl _ _) | (with_reducible refine below_al ?_ _) | (with_reducible refine below_drewN ?_ _) | (with_reducible refine Below.drew ?_) | (with_reducible refine below_via (by assumption) ?_) | (with_reducible refine below_sc ?_ ?_ _; · (first | (simp; done) | (simp; omega) | omega))))).mono ?_); rintro e w1 ⟨rfl, hb1⟩)
    go_ret
    exact ⟨rfl, (by repeat (first | (with_reducible exact Below.refl _ _) | (with_reducible refine below_al ?_ _) | (with_reducible refine below_drewN ?_ _) | (with_reducible refine Below.drew ?_) | (with_reducible refine below_via (by assumption) ?_) | (with_reducible refine below_sc ?_ ?_ _; · (first | (simp; done) | (simp; omega) | omega))))⟩
  · rw [h1] at H1
    clear h1
    cases h2 : soundL m
    · rw [h2] at H2
      clear h2
      go_enter Tryz.func31, Tryz.ntmps31
      go_wp2_with (first | (go_at_call 29; (with_reducible refine (H1.out _ (by repeat (first | (with_reducible exact Below.refl _ _) | (with_reducible refine below_al ?_ _) | (with_reducible refine below_drewN ?_ _) | (with_reducible refine Below.drew ?_) | (with_reducible refine below_via (by assumption) ?_) | (with_reducible refine below_sc ?_ ?_ _; · (first | (simp; done) | (simp; omega) | omega))))).mono ?_); rintro e w1 ⟨rfl, hb1⟩) | (go_at_call 29; (with_reducible refine (H2.out _ (by repeat (first | (with_reducible exact Below.refl _ _) | (with_reducible refine below_al ?_ _) | (with_reducible refine below_drewN ?_ _) | (with_reducible refine Below.drew ?_) | (with_reducible refine below_via (by assumption) ?_) | (with_reducible refine below_sc ?_ ?_ _; · (first | (simp; done) | (simp; omega) | omega))))).mono ?_); rintro e w2 ⟨rfl, hb2⟩))
      go_ret
      exact ⟨rfl, (by repeat (first | (with_reducible exact Below.refl _ _) | (with_reducible refine below_al ?_ _) | (with_reducible refine below_drewN ?_ _) | (with_reducible refine Below.drew ?_) | (with_reducible refine below_via (by assumption) ?_) | (with_reducible refine below_sc ?_ ?_ _; · (first | (simp; done) | (simp; omega) | omega))))⟩
    · rw [h2] at H2
      clear h2
      go_enter Tryz.func31, Tryz.ntmps31
      go_wp2_with (first | (go_at_call 29; (with_reducible refine (H1.out _ (by repeat (first | (with_reducible exact Below.refl _ _) | (with_reducible refine below_al ?_ _) | (with_reducible refine below_drewN ?_ _) | (with_reducible refine Below.drew ?_) | (with_reducible refine below_via (by assumption) ?_) | (with_reducible refine below_sc ?_ ?_ _; · (first | (simp; done) | (simp; omega) | omega))))).mono ?_); rintro e w1 ⟨rfl, hb1⟩) | (go_at_call 29; (with_reducible refine (H2.out _ (by repeat (first | (with_reducible exact Below.refl _ _) | (with_reducible refine below_al ?_ _) | (with_reducible refine below_drewN ?_ _) | (with_reducible refine Below.drew ?_) | (with_reducible refine below_via (by assumption) ?_) | (with_reducible refine below_sc ?_ ?_ _; · (first | (simp; done) | (simp; omega) | omega))))).mono ?_); rintro e w2 ⟨rfl, hb2⟩) | (go_at_call 69; (with_reducible refine (H3.out _ (by repeat (first | (with_reducible exact Below.refl _ _) | (with_reducible refine below_al ?_ _) | (with_reducible refine below_drewN ?_ _) | (with_reducible refine Below.drew ?_) | (with_reducible refine below_via (by assumption) ?_) | (with_reducible refine below_sc ?_ ?_ _; · (first | (simp; done) | (simp; omega) | omega))))).mono ?_); rintro e w3 ⟨rfl, hb3⟩))
      go_ret
      exact ⟨rfl, (by repeat (first | (with_reducible exact Below.refl _ _) | (with_reducible refine below_al ?_ _) | (with_reducible refine below_drewN ?_ _) | (with_reducible refine Below.drew ?_) | (with_reducible refine below_via (by assumption) ?_) | (with_reducible refine below_sc ?_ ?_ _; · (first | (simp; done) | (simp; omega) | omega))))⟩

end Go.Proofs.YthpkjkcfhipjhaaGreatDoor
