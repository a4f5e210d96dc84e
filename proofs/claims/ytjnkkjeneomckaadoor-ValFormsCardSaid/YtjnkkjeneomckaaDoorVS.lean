/- A text's spelling; the closed conditions that every law asks first. -/
import Derived.Test.YtjnkkjeneomckaaDoorVQ
import Derived.Test.YtjnkkjeneomckaaDoorV8
import Derived.BigQuiet
namespace Go.Proofs.YtjnkkjeneomckaaDoor
set_option linter.unusedVariables false
set_option linter.unusedSimpArgs false
open Go.RowKit

set_option maxRecDepth 100000 in
set_option maxHeartbeats 2000000 in
theorem show_text_c (t : ByteArray) (w : World) (ht : t.size ≤ 4096) (hs : soundV 4 0 0 t = true) : Calls Tryd.prog 15 #[.agg #[.int .i64 4, .int .i64 0, .int .u64 0, .string t]] w fun e w' => e = .returned (.string ⟨(quotedL t.data.toList).toArray⟩) ∧ Below w.heap.size w w' := by
  go_enter Tryd.func15, Tryd.ntmps15
  go_wp2_with (first | (go_at_call 13; refine (sound_c _ _ _ _ _ ⟨by decide, by decide⟩).mono ?_; rintro e w' ⟨rfl, hb⟩; (try (replace hb := below_undrew hb)); (try (replace hb := below_undrewN hb)); obtain ⟨hc, hf⟩ := bcell hb; (try (have hz0 : w.heap.size < w'.heap.size := (by have := hb.size; (try simp at this); omega))); (try (have hz1 : w.heap.size + 1 < w'.heap.size := (by have := hb.size; (try simp at this); omega))); (try (have hz2 : w.heap.size + 2 < w'.heap.size := (by have := hb.size; (try simp at this); omega))); (try (have hz3 : w.heap.size + 3 < w'.heap.size := (by have := hb.size; (try simp at this); omega)))) | (go_at_call 32; refine (quoted_c _ _ ht).mono ?_; rintro e w' ⟨rfl, hb⟩; (try (replace hb := below_undrew hb)); (try (replace hb := below_undrewN hb)); obtain ⟨hc, hf⟩ := bcell hb; (try (have hz0 : w.heap.size < w'.heap.size := (by have := hb.size; (try simp at this); omega))); (try (have hz1 : w.heap.size + 1 < w'.heap.size := (by have := hb.size; (try simp at this); omega))); (try (have hz2 : w.heap.size + 2 < w'.heap.size := (by have := hb.size; (try simp at this); omega))); (try (have hz3 : w.heap.size + 3 < w'.heap.size := (by have := hb.size; (try simp at this); omega)))))
  exact bodyPost_ret (v := .string ⟨(quotedL t.data.toList).toArray⟩) (by simp [results, Tryd.results15, go_sem, *]) rfl ⟨rfl, (by repeat (first | (with_reducible exact Below.refl _ _) | (with_reducible refine below_al ?_ _) | (with_reducible refine below_drewN ?_ _) | (with_reducible refine Below.drew ?_) | (with_reducible refine below_via (by assumption) ?_) | (with_reducible refine below_sc ?_ ?_ _; · (first | (simp; done) | (simp; omega) | omega))))⟩

theorem two23 : resV (twoS 10 2 2 0 ⟨#[]⟩ 2 3 0 ⟨#[]⟩) = (⟨2, 5, 0, ⟨#[]⟩⟩, 0) := by kernel_rfl
theorem two70 : (resV (twoS 13 2 7 0 ⟨#[]⟩ 2 0 0 ⟨#[]⟩)) = (⟨0, 0, 0, ⟨#[]⟩⟩, 10) := by kernel_rfl
theorem one4 : resV (oneS 3 0 2 4 0 ⟨#[]⟩) = (⟨2, -4, 0, ⟨#[]⟩⟩, 0) := by kernel_rfl
theorem sound5 : soundV 2 5 0 ⟨#[]⟩ = true := by kernel_rfl
theorem cmp54 : cmpV 2 5 0 ⟨#[]⟩ 2 (-4) 0 ⟨#[]⟩ = 1 := by kernel_rfl
theorem sound_t : soundV 4 0 0 ⟨#[97, 39, 98]⟩ = true := by kernel_rfl
theorem quoted_t : (⟨(quotedL (⟨#[97, 39, 98]⟩ : ByteArray).data.toList).toArray⟩ : ByteArray) = ⟨#[39, 97, 39, 39, 98, 39]⟩ := by kernel_rfl
theorem plain0 : plainI 9223372036854775808 = 0 := by kernel_rfl

theorem two_a (w : World) : Calls Tryd.prog 26 #[.int .i64 10, .agg #[.int .i64 2, .int .i64 2, .int .u64 0, .string ⟨#[]⟩], .agg #[.int .i64 2, .int .i64 3, .int .u64 0, .string ⟨#[]⟩]] w fun e w' => e = .returned (.tuple #[.agg #[.int .i64 2, .int .i64 5, .int .u64 0, .string ⟨#[]⟩], .int .i64 0]) ∧ Below w.heap.size w w' := by
  refine (twoD_c 10 2 2 0 ⟨#[]⟩ 2 3 0 ⟨#[]⟩ w ⟨by decide, by decide⟩ ⟨by decide, by decide⟩).mono ?_
  rintro e w' ⟨rfl, h⟩; rw [two23]; exact ⟨rfl, h⟩
theorem two_b (w : World) : Calls Tryd.prog 26 #[.int .i64 13, .agg #[.int .i64 2, .int .i64 7, .int .u64 0, .string ⟨#[]⟩], .agg #[.int .i64 2, .int .i64 0, .int .u64 0, .string ⟨#[]⟩]] w fun e w' => e = .returned (.tuple #[.agg #[.int .i64 0, .int .i64 0, .int .u64 0, .string ⟨#[]⟩], .int .i64 10]) ∧ Below w.heap.size w w' := by
  refine (twoD_c 13 2 7 0 ⟨#[]⟩ 2 0 0 ⟨#[]⟩ w ⟨by decide, by decide⟩ ⟨by decide, by decide⟩).mono ?_
  rintro e w' ⟨rfl, h⟩; rw [two70]; exact ⟨rfl, h⟩
theorem one_a (w : World) (ht : Tab w) : Calls Tryd.prog 25 #[.int .i64 3, .int .i64 0, .agg #[.int .i64 2, .int .i64 4, .int .u64 0, .string ⟨#[]⟩]] w fun e w' => e = .returned (.tuple #[.agg #[.int .i64 2, .int .i64 (-4), .int .u64 0, .string ⟨#[]⟩], .int .i64 0]) ∧ Below w.heap.size w w' := by
  refine (oneD_c 3 0 2 4 0 ⟨#[]⟩ w ⟨by decide, by decide⟩ ht).mono ?_
  rintro e w' ⟨rfl, h⟩; rw [one4]; exact ⟨rfl, h⟩
theorem text_a (w : World) : Calls Tryd.prog 11 #[.string ⟨#[97, 39, 98]⟩] w fun e w' => e = .returned (.tuple #[.agg #[.int .i64 4, .int .i64 0, .int .u64 0, .string ⟨#[97, 39, 98]⟩], .int .i64 0]) ∧ Below w.heap.size w w' := by
  refine (ofText_c ⟨#[97, 39, 98]⟩ w).mono ?_
  rintro e w' ⟨rfl, h⟩; exact ⟨rfl, h⟩

theorem show_a (w : World) : Calls Tryd.prog 15 #[.agg #[.int .i64 4, .int .i64 0, .int .u64 0, .string ⟨#[97, 39, 98]⟩]] w fun e w' => e = .returned (.string ⟨#[39, 97, 39, 39, 98, 39]⟩) ∧ Below w.heap.size w w' := by
  rw [← quoted_t]; exact show_text_c ⟨#[97, 39, 98]⟩ w (by decide) sound_t
theorem cmp_a (w : World) : Calls Tryd.prog 23 #[.agg #[.int .i64 2, .int .i64 5, .int .u64 0, .string ⟨#[]⟩], .agg #[.int .i64 2, .int .i64 (-4), .int .u64 0, .string ⟨#[]⟩]] w fun e w' => e = .returned (.int .i64 1) ∧ Below w.heap.size w w' := by
  refine (compare_c 2 5 0 ⟨#[]⟩ 2 (-4) 0 ⟨#[]⟩ w ⟨by decide, by decide⟩ ⟨by decide, by decide⟩).mono ?_
  rintro e w' ⟨rfl, h⟩; rw [cmp54]; exact ⟨rfl, h⟩
theorem sound_a (w : World) : Calls Tryd.prog 13 #[.agg #[.int .i64 2, .int .i64 5, .int .u64 0, .string ⟨#[]⟩]] w fun e w' => e = .returned (.bool true) ∧ Below w.heap.size w w' := by
  refine (sound_c 2 5 0 ⟨#[]⟩ w ⟨by decide, by decide⟩).mono ?_
  rintro e w' ⟨rfl, h⟩; rw [sound5]; exact ⟨rfl, h⟩
theorem ofFloat_a (w : World) : Calls Tryd.prog 17 #[.int .u64 9223372036854775808] w fun e w' => e = .returned (.agg #[.int .i64 3, .int .i64 0, .int .u64 0, .string ⟨#[]⟩]) ∧ Below w.heap.size w w' := by
  refine (ofFloat_c 9223372036854775808 w).mono ?_
  rintro e w' ⟨rfl, h⟩; rw [plain0]; exact ⟨rfl, h⟩
theorem ofBool_a (w : World) : Calls Tryd.prog 21 #[.bool true] w fun e w' => e = .returned (.agg #[.int .i64 1, .int .i64 1, .int .u64 0, .string ⟨#[]⟩]) ∧ Below w.heap.size w w' := ofBool_c true w
theorem eq_a : eqV 2 5 0 ⟨#[]⟩ 2 5 0 ⟨#[]⟩ = true := by kernel_rfl
theorem eq_b : eqV 2 (-4) 0 ⟨#[]⟩ 2 (-4) 0 ⟨#[]⟩ = true := by kernel_rfl
theorem eq_c : eqV 3 0 0 ⟨#[]⟩ 3 0 0 ⟨#[]⟩ = true := by kernel_rfl
theorem eq_d : eqV 1 1 0 ⟨#[]⟩ 1 1 0 ⟨#[]⟩ = true := by kernel_rfl

set_option maxRecDepth 100000 in
set_option maxHeartbeats 2000000 in
theorem awake_c (w : World) (ht : Tab w) : Calls Tryd.prog 10 #[] w fun e w' => e = .returned (.bool true) ∧ Below w.heap.size w w' := by
  have h1 := run_eqV
  have hq1 := eq_a
  have hq2 := eq_b
  have hq3 := eq_c
  have hq4 := eq_d
  go_enter Tryd.func10, Tryd.ntmps10
  go_wp2_with (first | (go_at_call 19; ((with_reducible refine (ofInt_c _ _).mono ?_); rintro e w' ⟨rfl, hb⟩; obtain ⟨hc, hf⟩ := bcell hb; (try (have hz_wa : wa.heap.size < w'.heap.size := (by have := hb.size; (try simp at this); omega))); (try (have hz_wb : wb.heap.size < w'.heap.size := (by have := hb.size; (try simp at this); omega))); (try (have hz_wc : wc.heap.size < w'.heap.size := (by have := hb.size; (try simp at this); omega))); (try (have hz_wd : wd.heap.size < w'.heap.size := (by have := hb.size; (try simp at this); omega))))) | (go_at_call 26; ((with_reducible refine (two_a _).mono ?_); rintro e wa ⟨rfl, hb⟩; obtain ⟨hc, hf⟩ := bcell hb; (try (have hz_wa : wa.heap.size < wa.heap.size := (by have := hb.size; (try simp at this); omega))); (try (have hz_wb : wb.heap.size < wa.heap.size := (by have := hb.size; (try simp at this); omega))); (try (have hz_wc : wc.heap.size < wa.heap.size := (by have := hb.size; (try simp at this); omega))); (try (have hz_wd : wd.heap.size < wa.heap.size := (by have := hb.size; (try simp at this); omega))))) | (go_at_call 26; ((with_reducible refine (two_b _).mono ?_); rintro e wb ⟨rfl, hb⟩; obtain ⟨hc, hf⟩ := bcell hb; (try (have hz_wa : wa.heap.size < wb.heap.size := (by have := hb.size; (try simp at this); omega))); (try (have hz_wb : wb.heap.size < wb.heap.size := (by have := hb.size; (try simp at this); omega))); (try (have hz_wc : wc.heap.size < wb.heap.size := (by have := hb.size; (try simp at this); omega))); (try (have hz_wd : wd.heap.size < wb.heap.size := (by have := hb.size; (try simp at this); omega))))) | (go_at_call 25; ((with_reducible refine (one_a _ (ht.below (by repeat (first | (with_reducible exact Below.refl _ _) | (with_reducible refine below_al ?_ _) | (with_reducible refine below_drewN ?_ _) | (with_reducible refine Below.drew ?_) | (with_reducible refine below_via (by assumption) ?_) | (with_reducible refine below_sc ?_ ?_ _; · (first | (simp; done) | (simp; omega) | omega)))))).mono ?_); rintro e wc ⟨rfl, hb⟩; obtain ⟨hc, hf⟩ := bcell hb; (try (have hz_wa : wa.heap.size < wc.heap.size := (by have := hb.size; (try simp at this); omega))); (try (have hz_wb : wb.heap.size < wc.heap.size := (by have := hb.size; (try simp at this); omega))); (try (have hz_wc : wc.heap.size < wc.heap.size := (by have := hb.size; (try simp at this); omega))); (try (have hz_wd : wd.heap.size < wc.heap.size := (by have := hb.size; (try simp at this); omega))))) | (go_at_call 11; ((with_reducible refine (text_a _).mono ?_); rintro e wd ⟨rfl, hb⟩; obtain ⟨hc, hf⟩ := bcell hb; (try (have hz_wa : wa.heap.size < wd.heap.size := (by have := hb.size; (try simp at this); omega))); (try (have hz_wb : wb.heap.size < wd.heap.size := (by have := hb.size; (try simp at this); omega))); (try (have hz_wc : wc.heap.size < wd.heap.size := (by have := hb.size; (try simp at this); omega))); (try (have hz_wd : wd.heap.size < wd.heap.size := (by have := hb.size; (try simp at this); omega))))) | (go_at_call 15; ((with_reducible refine (show_a _).mono ?_); rintro e w' ⟨rfl, hb⟩; obtain ⟨hc, hf⟩ := bcell hb; (try (have hz_wa : wa.heap.size < w'.heap.size := (by have := hb.size; (try simp at this); omega))); (try (have hz_wb : wb.heap.size < w'.heap.size := (by have := hb.size; (try simp at this); omega))); (try (have hz_wc : wc.heap.size < w'.heap.size := (by have := hb.size; (try simp at this); omega))); (try (have hz_wd : wd.heap.size < w'.heap.size := (by have := hb.size; (try simp at this); omega))))) | (go_at_call 23; ((with_reducible refine (cmp_a _).mono ?_); rintro e w' ⟨rfl, hb⟩; obtain ⟨hc, hf⟩ := bcell hb; (try (have hz_wa : wa.heap.size < w'.heap.size := (by have := hb.size; (try simp at this); omega))); (try (have hz_wb : wb.heap.size < w'.heap.size := (by have := hb.size; (try simp at this); omega))); (try (have hz_wc : wc.heap.size < w'.heap.size := (by have := hb.size; (try simp at this); omega))); (try (have hz_wd : wd.heap.size < w'.heap.size := (by have := hb.size; (try simp at this); omega))))) | (go_at_call 13; ((with_reducible refine (sound_a _).mono ?_); rintro e w' ⟨rfl, hb⟩; obtain ⟨hc, hf⟩ := bcell hb; (try (have hz_wa : wa.heap.size < w'.heap.size := (by have := hb.size; (try simp at this); omega))); (try (have hz_wb : wb.heap.size < w'.heap.size := (by have := hb.size; (try simp at this); omega))); (try (have hz_wc : wc.heap.size < w'.heap.size := (by have := hb.size; (try simp at this); omega))); (try (have hz_wd : wd.heap.size < w'.heap.size := (by have := hb.size; (try simp at this); omega))))) | (go_at_call 17; ((with_reducible refine (ofFloat_a _).mono ?_); rintro e w' ⟨rfl, hb⟩; obtain ⟨hc, hf⟩ := bcell hb; (try (have hz_wa : wa.heap.size < w'.heap.size := (by have := hb.size; (try simp at this); omega))); (try (have hz_wb : wb.heap.size < w'.heap.size := (by have := hb.size; (try simp at this); omega))); (try (have hz_wc : wc.heap.size < w'.heap.size := (by have := hb.size; (try simp at this); omega))); (try (have hz_wd : wd.heap.size < w'.heap.size := (by have := hb.size; (try simp at this); omega))))) | (go_at_call 21; ((with_reducible refine (ofBool_a _).mono ?_); rintro e w' ⟨rfl, hb⟩; obtain ⟨hc, hf⟩ := bcell hb; (try (have hz_wa : wa.heap.size < w'.heap.size := (by have := hb.size; (try simp at this); omega))); (try (have hz_wb : wb.heap.size < w'.heap.size := (by have := hb.size; (try simp at this); omega))); (try (have hz_wc : wc.heap.size < w'.heap.size := (by have := hb.size; (try simp at this); omega))); (try (have hz_wd : wd.heap.size < w'.heap.size := (by have := hb.size; (try simp at this); omega))))))
  go_ret
  exact ⟨rfl, (by repeat (first | (with_reducible exact Below.refl _ _) | (with_reducible refine below_al ?_ _) | (with_reducible refine below_drewN ?_ _) | (with_reducible refine Below.drew ?_) | (with_reducible refine below_via (by assumption) ?_) | (with_reducible refine below_sc ?_ ?_ _; · (first | (simp; done) | (simp; omega) | omega))))⟩

end Go.Proofs.YtjnkkjeneomckaaDoor
