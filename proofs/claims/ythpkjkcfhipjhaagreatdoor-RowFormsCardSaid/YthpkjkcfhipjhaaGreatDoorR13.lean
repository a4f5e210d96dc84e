/- The statements' first look at row (awake): the walk. -/
import Derived.Test.YthpkjkcfhipjhaaGreatDoorR12
import Derived.BigQuiet
import Derived.Deep.QuietTactic
namespace Go.Proofs.YthpkjkcfhipjhaaGreatDoor
set_option linter.unusedVariables false
set_option linter.unusedSimpArgs false
open Go.RowKit Go.Proofs.YthpkjkcfhipjhaaGreatDoorW.PrintWords Go.Proofs.YthpkjkcfhipjhaaGreatDoorW.PrintLast PRW

theorem region_quiet_lit {P : Program} {C : World → Prop} {id : Nat} {Q : Exit → Act → World → Prop} {a : Act} {w : World} {l : List Oper} (hm : P.follows .mixedOrders = true) (hB : Region.lexB .any l.toArray = true) (hC : C { w with drawn := w.drawn + 1 })
    (h : wpQuiet P l.toArray C (fun a' => ∀ w', C w' → Q .normal a' w') l a) : (Code.region id l.toArray true).wp P Q a w :=
  wp_region_quiet hm hB hC (by simpa using h)
theorem eq_aa : eqV 4 0 0 ⟨#[97]⟩ 4 0 0 ⟨#[97]⟩ = true := by kernel_rfl

theorem C_at0 {W : World} {A : Option Addr} {x y : S64} (h : Kd.C k64 W A 2 [x, y]) : ∃ ad, A = some ad ∧ W.cell? ad = some (.int .i64 x.f0) ∧ W.cell? ⟨ad.block, ad.off + 1, none⟩ = some (.int .i64 x.f1) ∧ W.cell? ⟨ad.block, ad.off + 2, none⟩ = some (.int .u64 x.f2) ∧ W.cell? ⟨ad.block, ad.off + 3, none⟩ = some (.string x.f3) := by
  obtain ⟨ad, e, h0, h1, h2, h3⟩ := at_T64 h 0 (by decide) (by decide)
  have e0 : ad.add ((0 : Int).toNat * 4) = ad := by simp [Addr.add]
  rw [e0] at h0 h1 h2 h3
  exact ⟨ad, e, h0, h1, h2, h3⟩
theorem C_at1 {W : World} {b : Nat} {x y : S64} (h : Kd.C k64 W (some ⟨b, 0, none⟩) 2 [x, y]) : W.cell? ⟨b, 4, none⟩ = some (.int .i64 y.f0) ∧ W.cell? ⟨b, 5, none⟩ = some (.int .i64 y.f1) ∧ W.cell? ⟨b, 6, none⟩ = some (.int .u64 y.f2) ∧ W.cell? ⟨b, 7, none⟩ = some (.string y.f3) := by
  obtain ⟨ad, e, h0, h1, h2, h3⟩ := at_T64 h 1 (by decide) (by decide)
  cases e
  simp [Addr.add] at h0 h1 h2 h3
  exact ⟨h0, h1, h2, h3⟩

set_option maxRecDepth 100000 in
set_option maxHeartbeats 8000000 in
theorem awake2_c (w : World) (ht : RTab w) : Calls Tryz.prog 24 #[] w fun e w' => e = .returned (.bool true) ∧ Below w.heap.size w w' := by
  have HT := hidF ht
  clear ht
  have hq := run_eqV
  have hqa := eq_aa
  have HC0 := hidF (rV_C w)
  go_enter Tryz.func24, Tryz.ntmps24
  go_wp2_with fail
  (with_reducible refine (encode_a ⟨w.heap.size, 0, none⟩ _ (HT.out.below (by repeat (first | (with_reducible exact Below.refl _ _) | (with_reducible refine below_al ?_ _) | (with_reducible refine below_drewN ?_ _) | (with_reducible refine Below.drew ?_) | (with_reducible refine below_via (by assumption) ?_) | (with_reducible refine below_sc ?_ ?_ _; · (first | (simp; done) | (simp; omega) | omega))))) HC0.out).mono ?_)
  rintro e w1 ⟨rfl, hb1⟩
  have HC1 := hidF (Kd.C_below HC0.out hb1)
  have HB1 := hidF (show Below w.heap.size w w1 from (by repeat (first | (with_reducible exact Below.refl _ _) | (with_reducible refine below_al ?_ _) | (with_reducible refine below_drewN ?_ _) | (with_reducible refine Below.drew ?_) | (with_reducible refine below_via (by assumption) ?_) | (with_reducible refine below_sc ?_ ?_ _; · (first | (simp; done) | (simp; omega) | omega)))))
  clear hb1
  go_wp2_with fail
  (with_reducible refine (decode_a _).mono ?_)
  rintro e w2 ⟨⟨A4, c4, rfl, hc4, hC4⟩, hb2⟩
  have HC2 := hidF (Kd.C_below HC1.out hb2)
  have HB2 := hidF (HB1.out.trans (hb2.mono HB1.out.size))
  have HD2 := hidF hC4
  clear hb2 hC4
  go_wp2_with fail
  (with_reducible refine (pick_c ⟨w.heap.size, 0, none⟩ ⟨w2.heap.size, 0, none⟩ _ (Kd.C_alloc HC2.out _) (ints_C w2)).mono ?_)
  rintro e w3 ⟨⟨A6, c6, rfl, hc6, hC6⟩, hb3⟩
  have HC3 := hidF (Kd.C_below (Kd.C_alloc HC2.out _) hb3)
  have HD3 := hidF (Kd.C_below (Kd.C_alloc HD2.out _) hb3)
  have HE3 := hidF hC6
  have HB3 := hidF (show Below w.heap.size w w3 from (HB2.out.alloc HB2.out.size _).trans (hb3.mono (by have := HB2.out.size; simp; omega)))
  clear hb3
  obtain ⟨a6, e6, _⟩ := C_at0 hC6
  subst e6
  clear hC6
  go_wp2_with fail
  have hC : Cls w A4 (some a6) w3.drew := ⟨HB3.out.drew, HT.out.below HB3.out.drew, Kd.C_drew HC3.out, Kd.C_drew HD3.out, Kd.C_drew HE3.out⟩
  refine region_quiet_lit (C := Cls w A4 (some a6)) (by kernel_rfl) (by kernel_rfl) hC ?_
  clear hC
  repeat (first
    | go_big_quiet_skip
    | (go_big_quiet_want; first
        | (go_big_quiet_op; go_big_quiet_on)
        | (apply Exists.intro
           refine ⟨fun w' hw' => ?_, ?_⟩
           · (have HC := hidF hw'
              obtain ⟨q, q1, x1, x2, x3, x4⟩ := C_at0 hw'.p
              obtain ⟨y0, y1, y2, y3⟩ := C_at1 hw'.r
              cases q1
              go_simp
              first
                | exact rfl
                | ((with_reducible refine (same_c ⟨w.heap.size, 0, none⟩ A4 c4 hc4 _ HC.out.r HC.out.b).mono ?_); rintro e w'' ⟨rfl, hb⟩; exact ⟨rfl, HC.out.keep hb⟩)
                | ((with_reducible refine (show_rc ⟨w.heap.size, 0, none⟩ _ HC.out.tab HC.out.r).mono ?_); rintro e w'' ⟨rfl, hb⟩; exact ⟨rfl, HC.out.keep hb⟩)
                | ((with_reducible refine (cmp_rc ⟨w.heap.size, 0, none⟩ _ HC.out.r).mono ?_); rintro e w'' ⟨rfl, hb⟩; exact ⟨rfl, HC.out.keep hb⟩)
                | ((with_reducible refine (snd_rc ⟨w.heap.size, 0, none⟩ _ HC.out.r).mono ?_); rintro e w'' ⟨rfl, hb⟩; exact ⟨rfl, HC.out.keep hb⟩))
           go_simp
           go_big_quiet_on)))
  refine wpQuiet_nil ?_
  intro w' hw'
  go_wp2_with fail
  go_ret
  exact ⟨rfl, hw'.bel⟩

end Go.Proofs.YthpkjkcfhipjhaaGreatDoor
