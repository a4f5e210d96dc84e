/- The steps of val over one value. -/
import Derived.Test.YtjnkkjeneomckaaDoorV3
import Derived.Lib.AppendIntMem
import Derived.Lib.ItoaLen
namespace Go.Proofs.YtjnkkjeneomckaaDoor
set_option linter.unusedVariables false
set_option linter.unusedSimpArgs false
open Go.RowKit

/-- the table of powers of ten is as the program's text lays it -/
def Tab (w : World) : Prop := Lib.TabIs Tryd.prog w "internal/strconv.uint64pow10" .u64 Lib.pow10Tab
theorem Tab.below {w w' : World} (h : Tab w) (hb : Below w.heap.size w w') : Tab w' := Lib.tabBelow_of_tabIs h w' hb

def negS (k n f : Int) : Except Int V :=
  if k == 2 then (if n == -9223372036854775808 then .error 11 else .ok ⟨2, -n, 0, ⟨#[]⟩⟩)
  else if k == 3 then .ok ⟨3, 0, plainI (Op.negFloat .f64 f.toNat), ⟨#[]⟩⟩ else .error 1

theorem run_negF (b : Nat) (w : World) : (Op.unary .neg (.float .f64 b)).run Tryd.prog w = .ok (.float .f64 (Op.negFloat .f64 b)) w := rfl

set_option maxRecDepth 100000 in
set_option maxHeartbeats 2000000 in
theorem negative_c (k n f : Int) (t : ByteArray) (w : World) (hn : I64 n) : Calls Tryd.prog 67 #[.agg #[.int .i64 k, .int .i64 n, .int .u64 f, .string t]] w (OutV (negS k n f) w) := by
  obtain ⟨n1, n2⟩ := hn
  have hw : (n != -9223372036854775808) = true → wrap64 (-n) = -n := fun h => by simp at h; simp only [wrap64]; omega
  have HW := Lib.hid hw; clear hw
  have h1 := run_negF
  go_enter Tryd.func67, Tryd.ntmps67
  go_wp2_with (first | (go_at_call 65; ((with_reducible refine (must_t _ _).mono ?_); rintro e w' ⟨rfl, rfl⟩)) | (go_at_call 65; ((with_reducible refine (must_f _ _).mono ?_); rintro e w' ⟨rfl, rfl⟩)) | (go_at_call 65; refine (must_c _ _ _).mono ?_; rintro e w' ⟨(⟨hm, rfl⟩ | ⟨hm, rfl⟩), rfl⟩) | (go_at_call 19; refine (ofInt_c _ _).mono ?_; rintro e w' ⟨rfl, hb⟩; (try (replace hb := below_undrew hb)); (try (replace hb := below_undrewN hb)); obtain ⟨hc, hf⟩ := bcell hb; (try (have hz0 : w.heap.size < w'.heap.size := (by have := hb.size; (try simp at this); omega))); (try (have hz1 : w.heap.size + 1 < w'.heap.size := (by have := hb.size; (try simp at this); omega))); (try (have hz2 : w.heap.size + 2 < w'.heap.size := (by have := hb.size; (try simp at this); omega))); (try (have hz3 : w.heap.size + 3 < w'.heap.size := (by have := hb.size; (try simp at this); omega)))) | (go_at_call 72; refine (of_c _ _).mono ?_; rintro e w' ⟨rfl, hb⟩; (try (replace hb := below_undrew hb)); (try (replace hb := below_undrewN hb)); obtain ⟨hc, hf⟩ := bcell hb; (try (have hz0 : w.heap.size < w'.heap.size := (by have := hb.size; (try simp at this); omega))); (try (have hz1 : w.heap.size + 1 < w'.heap.size := (by have := hb.size; (try simp at this); omega))); (try (have hz2 : w.heap.size + 2 < w'.heap.size := (by have := hb.size; (try simp at this); omega))); (try (have hz3 : w.heap.size + 3 < w'.heap.size := (by have := hb.size; (try simp at this); omega)))) | (go_at_call 39; refine (float_c _ _ _ _ _).mono ?_; rintro e w' ⟨rfl, hb⟩; (try (replace hb := below_undrew hb)); (try (replace hb := below_undrewN hb)); obtain ⟨hc, hf⟩ := bcell hb; (try (have hz0 : w.heap.size < w'.heap.size := (by have := hb.size; (try simp at this); omega))); (try (have hz1 : w.heap.size + 1 < w'.heap.size := (by have := hb.size; (try simp at this); omega))); (try (have hz2 : w.heap.size + 2 < w'.heap.size := (by have := hb.size; (try simp at this); omega))); (try (have hz3 : w.heap.size + 3 < w'.heap.size := (by have := hb.size; (try simp at this); omega)))))
  · (exact bodyPost_ret (v := .agg #[.int .i64 (2), .int .i64 (wrap64 (-n)), .int .u64 (0), .string (⟨#[]⟩)]) (by simp [results, Tryd.results67, go_sem, *]) rfl (outV_ret (x := ⟨2, wrap64 (-n), 0, ⟨#[]⟩⟩) (by rw [HW.out hm]; simp_all [negS]) (by repeat (first | (with_reducible exact Below.refl _ _) | (with_reducible refine below_al ?_ _) | (with_reducible refine below_drewN ?_ _) | (with_reducible refine Below.drew ?_) | (with_reducible refine below_via (by assumption) ?_) | (with_reducible refine below_sc ?_ ?_ _; · (first | (simp; done) | (simp; omega) | omega))))))
  · (exact ⟨rfl, outV_pan (by simp_all [negS]) (by repeat (first | (with_reducible exact Below.refl _ _) | (with_reducible refine below_al ?_ _) | (with_reducible refine below_drewN ?_ _) | (with_reducible refine Below.drew ?_) | (with_reducible refine below_via (by assumption) ?_) | (with_reducible refine below_sc ?_ ?_ _; · (first | (simp; done) | (simp; omega) | omega))))⟩)
  · (exact bodyPost_ret (v := .agg #[.int .i64 (3), .int .i64 (0), .int .u64 (plainI (Op.negFloat .f64 f.toNat)), .string (⟨#[]⟩)]) (by simp [results, Tryd.results67, go_sem, *]) rfl (outV_ret (x := ⟨3, 0, plainI (Op.negFloat .f64 f.toNat), ⟨#[]⟩⟩) (by simp_all [negS]) (by repeat (first | (with_reducible exact Below.refl _ _) | (with_reducible refine below_al ?_ _) | (with_reducible refine below_drewN ?_ _) | (with_reducible refine Below.drew ?_) | (with_reducible refine below_via (by assumption) ?_) | (with_reducible refine below_sc ?_ ?_ _; · (first | (simp; done) | (simp; omega) | omega))))))
  · (exact ⟨rfl, outV_pan (by simp_all [negS]) (by repeat (first | (with_reducible exact Below.refl _ _) | (with_reducible refine below_al ?_ _) | (with_reducible refine below_drewN ?_ _) | (with_reducible refine Below.drew ?_) | (with_reducible refine below_via (by assumption) ?_) | (with_reducible refine below_sc ?_ ?_ _; · (first | (simp; done) | (simp; omega) | omega))))⟩)

def castS (k n f : Int) (t : ByteArray) (kind : Int) : Except Int V :=
  if k == kind then .ok ⟨k, n, f, t⟩
  else if k == 2 && kind == 3 then .ok ⟨3, 0, plainI (floatOfInt .f64 n), ⟨#[]⟩⟩
  else if k == 3 && kind == 2 then (match intF f.toNat with | some m => .ok ⟨2, m, 0, ⟨#[]⟩⟩ | none => .error 11)
  else if k == 2 && kind == 4 then .ok ⟨4, 0, 0, ⟨(Lib.itoa n).toArray⟩⟩
  else if k == 1 && kind == 4 then .ok ⟨4, 0, 0, ⟨(Lib.formatBool (n == 1)).toArray⟩⟩
  else .error 1

theorem size_mk (l : List UInt8) : (⟨l.toArray⟩ : ByteArray).size = l.length := by simp [ByteArray.size]

theorem itoa_c (n : Int) (w : World) (hn : I64 n) (ht : Tab w) : Calls Tryd.prog 31 #[.int .i64 n] w fun e w' => e = .returned (.string ⟨(Lib.itoa n).toArray⟩) ∧ Below w.heap.size w w' :=
  (Tryd.strconv_Itoa n hn.1 hn.2 w ht).mono fun _ _ ⟨h1, k, os, h2⟩ => ⟨h1, by rw [h2]; exact Lib.below_grow _ _ (Nat.le_refl _) _ _⟩

theorem cast_test' (x : Nat) : ((FloatKind.f64.format.order x 14114281232179134464 == some .gt || FloatKind.f64.format.order x 14114281232179134464 == some .eq) && FloatKind.f64.format.order x 4890909195324358656 == some .lt) = (intF x).isSome := cast_test x

theorem trunc_b (x : Nat) (w : World) : Calls Tryd.prog 87 #[.float .f64 x] w fun e w' => ∃ r, e = .returned (.float .f64 r) ∧ intF r = intF x ∧ Below w.heap.size w w' :=
  (trunc_c x w).mono fun _ _ ⟨r, _, h1, h2, h3⟩ => ⟨r, h1, h2, by rw [h3]; exact below_drewN (Below.refl _ _) _⟩

set_option maxRecDepth 100000 in
set_option maxHeartbeats 2000000 in
theorem cast_ok (n f : Int) (t : ByteArray) (m : Int) (w : World) (hm0 : intF f.toNat = some m) : Calls Tryd.prog 66 #[.agg #[.int .i64 3, .int .i64 n, .int .u64 f, .string t], .int .i64 2] w (OutV (.ok ⟨2, m, 0, ⟨#[]⟩⟩) w) := by
  go_enter Tryd.func66, Tryd.ntmps66
  go_wp2_with (first | (go_at_call 65; ((with_reducible refine (must_t _ _).mono ?_); rintro e w' ⟨rfl, rfl⟩)) | (go_at_call 65; ((with_reducible refine (must_f _ _).mono ?_); rintro e w' ⟨rfl, rfl⟩)) | (go_at_call 65; refine (must_c _ _ _).mono ?_; rintro e w' ⟨(⟨hm, rfl⟩ | ⟨hm, rfl⟩), rfl⟩) | (go_at_call 39; refine (float_c _ _ _ _ _).mono ?_; rintro e w' ⟨rfl, hb⟩; (try (replace hb := below_undrew hb)); (try (replace hb := below_undrewN hb)); obtain ⟨hc, hf⟩ := bcell hb; (try (have hz0 : w.heap.size < w'.heap.size := (by have := hb.size; (try simp at this); omega))); (try (have hz1 : w.heap.size + 1 < w'.heap.size := (by have := hb.size; (try simp at this); omega))); (try (have hz2 : w.heap.size + 2 < w'.heap.size := (by have := hb.size; (try simp at this); omega))); (try (have hz3 : w.heap.size + 3 < w'.heap.size := (by have := hb.size; (try simp at this); omega)))) | (go_at_call 87; refine (trunc_b _ _).mono ?_; rintro e w' ⟨r, rfl, hr, hb⟩; obtain ⟨hc, hf⟩ := bcell hb; (try (have hz0 : w.heap.size < w'.heap.size := (by have := hb.size; (try simp at this); omega))); (try (have hz1 : w.heap.size + 1 < w'.heap.size := (by have := hb.size; (try simp at this); omega))); (try (have hz2 : w.heap.size + 2 < w'.heap.size := (by have := hb.size; (try simp at this); omega))); (try (have hz3 : w.heap.size + 3 < w'.heap.size := (by have := hb.size; (try simp at this); omega))); have hct := cast_test' r; rw [hr, hm0] at hct; simp only [Option.isSome_some, Bool.and_eq_true] at hct; obtain ⟨ht1, ht2⟩ := hct; have hcv := fun w => run_convert_float_int (P := Tryd.prog) w 54 3 .f64 .i64 r m (by rw [Tryd.underlying54]; rfl) Tryd.underlying3 (by rw [cast_fi, hr, hm0])) | (go_at_call 19; refine (ofInt_c _ _).mono ?_; rintro e w' ⟨rfl, hb⟩; (try (replace hb := below_undrew hb)); (try (replace hb := below_undrewN hb)); obtain ⟨hc, hf⟩ := bcell hb; (try (have hz0 : w.heap.size < w'.heap.size := (by have := hb.size; (try simp at this); omega))); (try (have hz1 : w.heap.size + 1 < w'.heap.size := (by have := hb.size; (try simp at this); omega))); (try (have hz2 : w.heap.size + 2 < w'.heap.size := (by have := hb.size; (try simp at this); omega))); (try (have hz3 : w.heap.size + 3 < w'.heap.size := (by have := hb.size; (try simp at this); omega)))))
  all_goals first
    | (exfalso; simp_all; done)
    | (exact bodyPost_ret (v := .agg #[.int .i64 (2), .int .i64 (m), .int .u64 (0), .string (⟨#[]⟩)]) (by simp [results, Tryd.results66, go_sem, *]) rfl (outV_ret (x := ⟨2, m, 0, ⟨#[]⟩⟩) (rfl) (by repeat (first | (with_reducible exact Below.refl _ _) | (with_reducible refine below_al ?_ _) | (with_reducible refine below_drewN ?_ _) | (with_reducible refine Below.drew ?_) | (with_reducible refine below_via (by assumption) ?_) | (with_reducible refine below_sc ?_ ?_ _; · (first | (simp; done) | (simp; omega) | omega))))))

set_option maxRecDepth 100000 in
set_option maxHeartbeats 2000000 in
theorem cast_no (n f : Int) (t : ByteArray) (w : World) (hm0 : intF f.toNat = none) : Calls Tryd.prog 66 #[.agg #[.int .i64 3, .int .i64 n, .int .u64 f, .string t], .int .i64 2] w (OutV (.error 11) w) := by
  go_enter Tryd.func66, Tryd.ntmps66
  go_wp2_with (first | (go_at_call 65; ((with_reducible refine (must_t _ _).mono ?_); rintro e w' ⟨rfl, rfl⟩)) | (go_at_call 65; ((with_reducible refine (must_f _ _).mono ?_); rintro e w' ⟨rfl, rfl⟩)) | (go_at_call 65; refine (must_c _ _ _).mono ?_; rintro e w' ⟨(⟨hm, rfl⟩ | ⟨hm, rfl⟩), rfl⟩) | (go_at_call 39; refine (float_c _ _ _ _ _).mono ?_; rintro e w' ⟨rfl, hb⟩; (try (replace hb := below_undrew hb)); (try (replace hb := below_undrewN hb)); obtain ⟨hc, hf⟩ := bcell hb; (try (have hz0 : w.heap.size < w'.heap.size := (by have := hb.size; (try simp at this); omega))); (try (have hz1 : w.heap.size + 1 < w'.heap.size := (by have := hb.size; (try simp at this); omega))); (try (have hz2 : w.heap.size + 2 < w'.heap.size := (by have := hb.size; (try simp at this); omega))); (try (have hz3 : w.heap.size + 3 < w'.heap.size := (by have := hb.size; (try simp at this); omega)))) | (go_at_call 87; refine (trunc_b _ _).mono ?_; rintro e w' ⟨r, rfl, hr, hb⟩; obtain ⟨hc, hf⟩ := bcell hb; (try (have hz0 : w.heap.size < w'.heap.size := (by have := hb.size; (try simp at this); omega))); (try (have hz1 : w.heap.size + 1 < w'.heap.size := (by have := hb.size; (try simp at this); omega))); (try (have hz2 : w.heap.size + 2 < w'.heap.size := (by have := hb.size; (try simp at this); omega))); (try (have hz3 : w.heap.size + 3 < w'.heap.size := (by have := hb.size; (try simp at this); omega))); have hct := cast_test' r; rw [hr, hm0] at hct; have HCT := Lib.hid hct; clear hct) | (go_at_call 19; refine (ofInt_c _ _).mono ?_; rintro e w' ⟨rfl, hb⟩; (try (replace hb := below_undrew hb)); (try (replace hb := below_undrewN hb)); obtain ⟨hc, hf⟩ := bcell hb; (try (have hz0 : w.heap.size < w'.heap.size := (by have := hb.size; (try simp at this); omega))); (try (have hz1 : w.heap.size + 1 < w'.heap.size := (by have := hb.size; (try simp at this); omega))); (try (have hz2 : w.heap.size + 2 < w'.heap.size := (by have := hb.size; (try simp at this); omega))); (try (have hz3 : w.heap.size + 3 < w'.heap.size := (by have := hb.size; (try simp at this); omega)))))
  all_goals first
    | (exact ⟨rfl, outV_pan (rfl) (by repeat (first | (with_reducible exact Below.refl _ _) | (with_reducible refine below_al ?_ _) | (with_reducible refine below_drewN ?_ _) | (with_reducible refine Below.drew ?_) | (with_reducible refine below_via (by assumption) ?_) | (with_reducible refine below_sc ?_ ?_ _; · (first | (simp; done) | (simp; omega) | omega))))⟩)
    | (exfalso; have := HCT.out; simp_all; done)

set_option maxRecDepth 100000 in
set_option maxHeartbeats 2000000 in
theorem cast_c (k n f : Int) (t : ByteArray) (kind : Int) (w : World) (hn : I64 n) (ht : Tab w) : Calls Tryd.prog 66 #[.agg #[.int .i64 k, .int .i64 n, .int .u64 f, .string t], .int .i64 kind] w (OutV (castS k n f t kind) w) := by
  have hl : (⟨(Lib.itoa n).toArray⟩ : ByteArray).size ≤ 4096 := by rw [size_mk]; have := Lib.itoa_length_le n hn.1 hn.2; omega
  have hl2 : (⟨(Lib.formatBool (n == 1)).toArray⟩ : ByteArray).size ≤ 4096 := by cases (n == 1) <;> decide
  by_cases c0 : k = kind
  · subst c0
    go_enter Tryd.func66, Tryd.ntmps66
    go_wp2_with fail
    (exact bodyPost_ret (v := .agg #[.int .i64 (k), .int .i64 (n), .int .u64 (f), .string (t)]) (by simp [results, Tryd.results66, go_sem, *]) rfl (outV_ret (x := ⟨k, n, f, t⟩) (by simp [castS]) (by repeat (first | (with_reducible exact Below.refl _ _) | (with_reducible refine below_al ?_ _) | (with_reducible refine below_drewN ?_ _) | (with_reducible refine Below.drew ?_) | (with_reducible refine below_via (by assumption) ?_) | (with_reducible refine below_sc ?_ ?_ _; · (first | (simp; done) | (simp; omega) | omega))))))
  by_cases c1 : k = 2 ∧ kind = 3
  · obtain ⟨rfl, rfl⟩ := c1
    go_enter Tryd.func66, Tryd.ntmps66
    go_wp2_with ((go_at_call 72; refine (of_c _ _).mono ?_; rintro e w' ⟨rfl, hb⟩; (try (replace hb := below_undrew hb)); (try (replace hb := below_undrewN hb)); obtain ⟨hc, hf⟩ := bcell hb; (try (have hz0 : w.heap.size < w'.heap.size := (by have := hb.size; (try simp at this); omega))); (try (have hz1 : w.heap.size + 1 < w'.heap.size := (by have := hb.size; (try simp at this); omega))); (try (have hz2 : w.heap.size + 2 < w'.heap.size := (by have := hb.size; (try simp at this); omega))); (try (have hz3 : w.heap.size + 3 < w'.heap.size := (by have := hb.size; (try simp at this); omega)))))
    (exact bodyPost_ret (v := .agg #[.int .i64 (3), .int .i64 (0), .int .u64 (plainI (floatOfInt .f64 n)), .string (⟨#[]⟩)]) (by simp [results, Tryd.results66, go_sem, *]) rfl (outV_ret (x := ⟨3, 0, plainI (floatOfInt .f64 n), ⟨#[]⟩⟩) (by simp [castS]) (by repeat (first | (with_reducible exact Below.refl _ _) | (with_reducible refine below_al ?_ _) | (with_reducible refine below_drewN ?_ _) | (with_reducible refine Below.drew ?_) | (with_reducible refine below_via (by assumption) ?_) | (with_reducible refine below_sc ?_ ?_ _; · (first | (simp; done) | (simp; omega) | omega))))))
  by_cases c2 : k = 3 ∧ kind = 2
  · obtain ⟨rfl, rfl⟩ := c2
    cases hm0 : intF f.toNat with
    | some m => exact (cast_ok n f t m w hm0).mono fun _ _ h => by simpa [castS, hm0] using h
    | none => exact (cast_no n f t w hm0).mono fun _ _ h => by simpa [castS, hm0] using h
  by_cases c3 : k = 2 ∧ kind = 4
  · obtain ⟨rfl, rfl⟩ := c3
    go_enter Tryd.func66, Tryd.ntmps66
    go_wp2_with (first | (go_at_call 31; refine (itoa_c _ _ hn (ht.below (by repeat (first | (with_reducible exact Below.refl _ _) | (with_reducible refine below_al ?_ _) | (with_reducible refine below_drewN ?_ _) | (with_reducible refine Below.drew ?_) | (with_reducible refine below_via (by assumption) ?_) | (with_reducible refine below_sc ?_ ?_ _; · (first | (simp; done) | (simp; omega) | omega)))))).mono ?_; rintro e w' ⟨rfl, hb⟩; obtain ⟨hc, hf⟩ := bcell hb; (try (have hz0 : w.heap.size < w'.heap.size := (by have := hb.size; (try simp at this); omega))); (try (have hz1 : w.heap.size + 1 < w'.heap.size := (by have := hb.size; (try simp at this); omega))); (try (have hz2 : w.heap.size + 2 < w'.heap.size := (by have := hb.size; (try simp at this); omega))); (try (have hz3 : w.heap.size + 3 < w'.heap.size := (by have := hb.size; (try simp at this); omega)))) | (go_at_call 71; refine (text_ok _ _ (by assumption)).mono ?_; rintro e w' ⟨rfl, hb⟩; (try (replace hb := below_undrew hb)); (try (replace hb := below_undrewN hb)); obtain ⟨hc, hf⟩ := bcell hb; (try (have hz0 : w.heap.size < w'.heap.size := (by have := hb.size; (try simp at this); omega))); (try (have hz1 : w.heap.size + 1 < w'.heap.size := (by have := hb.size; (try simp at this); omega))); (try (have hz2 : w.heap.size + 2 < w'.heap.size := (by have := hb.size; (try simp at this); omega))); (try (have hz3 : w.heap.size + 3 < w'.heap.size := (by have := hb.size; (try simp at this); omega)))))
    (exact bodyPost_ret (v := .agg #[.int .i64 (4), .int .i64 (0), .int .u64 (0), .string (⟨(Lib.itoa n).toArray⟩)]) (by simp [results, Tryd.results66, go_sem, *]) rfl (outV_ret (x := ⟨4, 0, 0, ⟨(Lib.itoa n).toArray⟩⟩) (by simp [castS]) (by repeat (first | (with_reducible exact Below.refl _ _) | (with_reducible refine below_al ?_ _) | (with_reducible refine below_drewN ?_ _) | (with_reducible refine Below.drew ?_) | (with_reducible refine below_via (by assumption) ?_) | (with_reducible refine below_sc ?_ ?_ _; · (first | (simp; done) | (simp; omega) | omega))))))
  by_cases c4 : k = 1 ∧ kind = 4
  · obtain ⟨rfl, rfl⟩ := c4
    go_enter Tryd.func66, Tryd.ntmps66
    go_wp2_with (first | (go_at_call 30; refine (Tryd.strconv_FormatBool _ _).mono ?_; rintro e w' ⟨rfl, rfl⟩) | (go_at_call 71; refine (text_ok _ _ (by assumption)).mono ?_; rintro e w' ⟨rfl, hb⟩; (try (replace hb := below_undrew hb)); (try (replace hb := below_undrewN hb)); obtain ⟨hc, hf⟩ := bcell hb; (try (have hz0 : w.heap.size < w'.heap.size := (by have := hb.size; (try simp at this); omega))); (try (have hz1 : w.heap.size + 1 < w'.heap.size := (by have := hb.size; (try simp at this); omega))); (try (have hz2 : w.heap.size + 2 < w'.heap.size := (by have := hb.size; (try simp at this); omega))); (try (have hz3 : w.heap.size + 3 < w'.heap.size := (by have := hb.size; (try simp at this); omega)))))
    (exact bodyPost_ret (v := .agg #[.int .i64 (4), .int .i64 (0), .int .u64 (0), .string (⟨(Lib.formatBool (n == 1)).toArray⟩)]) (by simp [results, Tryd.results66, go_sem, *]) rfl (outV_ret (x := ⟨4, 0, 0, ⟨(Lib.formatBool (n == 1)).toArray⟩⟩) (by simp [castS]) (by repeat (first | (with_reducible exact Below.refl _ _) | (with_reducible refine below_al ?_ _) | (with_reducible refine below_drewN ?_ _) | (with_reducible refine Below.drew ?_) | (with_reducible refine below_via (by assumption) ?_) | (with_reducible refine below_sc ?_ ?_ _; · (first | (simp; done) | (simp; omega) | omega))))))
  clear hl hl2
  go_enter Tryd.func66, Tryd.ntmps66
  go_wp2_with fail
  all_goals (exact ⟨rfl, outV_pan (by simp_all [castS]) (by repeat (first | (with_reducible exact Below.refl _ _) | (with_reducible refine below_al ?_ _) | (with_reducible refine below_drewN ?_ _) | (with_reducible refine Below.drew ?_) | (with_reducible refine below_via (by assumption) ?_) | (with_reducible refine below_sc ?_ ?_ _; · (first | (simp; done) | (simp; omega) | omega))))⟩)

end Go.Proofs.YtjnkkjeneomckaaDoor
