/- The statements' first look at row (awake). -/
import Derived.Test.YthpkjkcfhipjhaaGreatDoorXR
import Derived.Test.YthpkjkcfhipjhaaGreatDoorPRWx
import Derived.Test.YthpkjkcfhipjhaaGreatDoorMB
namespace Go.Proofs.YthpkjkcfhipjhaaGreatDoor
set_option linter.unusedVariables false
set_option linter.unusedSimpArgs false
open Go.RowKit Go.Proofs.YthpkjkcfhipjhaaGreatDoorW.PrintWords Go.Proofs.YthpkjkcfhipjhaaGreatDoorW.PrintLast PRW

abbrev aV : S64 := ⟨4, 0, 0, ⟨#[97]⟩⟩
abbrev tV : S64 := ⟨1, 1, 0, ⟨#[]⟩⟩
abbrev rV : List S64 := [tV, aV]
abbrev encA : ByteArray := ⟨#[1, 128, 0, 0, 0, 0, 0, 0, 1, 4, 97, 0, 0]⟩
theorem enc_a : xEncode.f rV = some (encA, 0) := by kernel_rfl
theorem dec_a : xDecode.f encA = some (rV, 0) := by kernel_rfl
theorem pick_a : row_Pick.f 10 rV [1, 1] = some ([aV, aV], 0) := by kernel_rfl
theorem same_a : freshetref02_Same.f 10 rV rV = some true := by kernel_rfl
theorem show_ra : row_Show.f 10 rV = some ⟨#[40, 116, 114, 117, 101, 44, 32, 39, 97, 39, 41]⟩ := by kernel_rfl
theorem cmp_ra : xRowCompare.f [tV] rV = some (-1) := by kernel_rfl
theorem snd_ra : xRowSound.f rV = some true := by kernel_rfl

theorem rV_C (w : World) : Kd.C k64 (w.alloc (.cells #[.int .i64 1, .int .i64 1, .int .u64 0, .string ⟨#[]⟩, .int .i64 4, .int .i64 0, .int .u64 0, .string ⟨#[97]⟩] 64)) (some ⟨w.heap.size, 0, none⟩) 2 rV := by
  refine ⟨rfl, by decide, fun _ => ⟨_, rfl, fun j p hj => ?_⟩⟩
  match j, hj with
  | 0, hj =>
    obtain rfl : tV = p := by simpa using hj
    refine ⟨_, rfl, k64_mk _ _, fun i u hu => ?_⟩
    match i, hu with
    | 0, hu => simp at hu; subst hu; simp [Addr.add, go_sem]
    | 1, hu => simp at hu; subst hu; simp [Addr.add, go_sem]
    | 2, hu => simp at hu; subst hu; simp [Addr.add, go_sem]
    | 3, hu => simp at hu; subst hu; simp [Addr.add, go_sem]
    | i + 4, hu => simp at hu
  | 1, hj =>
    obtain rfl : aV = p := by simpa using hj
    refine ⟨_, rfl, k64_mk _ _, fun i u hu => ?_⟩
    have e4 : k64.sz = 4 := rfl
    match i, hu with
    | 0, hu => simp at hu; subst hu; simp [Addr.add, go_sem, e4]
    | 1, hu => simp at hu; subst hu; simp [Addr.add, go_sem, e4]
    | 2, hu => simp at hu; subst hu; simp [Addr.add, go_sem, e4]
    | 3, hu => simp at hu; subst hu; simp [Addr.add, go_sem, e4]
    | i + 4, hu => simp at hu
  | j + 2, hj => simp at hj

theorem ints_C (w : World) : Kd.C (Kd.int .i64) (w.alloc (.cells #[.int .i64 1, .int .i64 1] 3)) (some ⟨w.heap.size, 0, none⟩) 2 [1, 1] := by
  refine ⟨rfl, by decide, fun _ => ⟨_, rfl, fun j p hj => ?_⟩⟩
  have e1 : (Kd.int .i64).sz = 1 := rfl
  match j, hj with
  | 0, hj =>
    obtain rfl : (1 : Int) = p := by simpa using hj
    refine ⟨_, rfl, rfl, fun i u hu => ?_⟩
    match i, hu with
    | 0, hu => simp at hu; subst hu; simp [Addr.add, go_sem]
  | 1, hj =>
    obtain rfl : (1 : Int) = p := by simpa using hj
    refine ⟨_, rfl, rfl, fun i u hu => ?_⟩
    match i, hu with
    | 0, hu => simp at hu; subst hu; simp [Addr.add, go_sem, e1]
  | j + 2, hj => simp at hj

/-- the worlds in which the last test is reckoned -/
structure Cls (w : World) (A4 A6 : Option Addr) (W : World) : Prop where
  bel : Below w.heap.size w W
  tab : RTab W
  r : Kd.C k64 W (some ⟨w.heap.size, 0, none⟩) 2 rV
  b : Kd.C k64 W A4 2 rV
  p : Kd.C k64 W A6 2 [aV, aV]
theorem Cls.keep {w W W' : World} {A4 A6 : Option Addr} (h : Cls w A4 A6 W) (hb : Below W.heap.size W W') : Cls w A4 A6 W' :=
  ⟨h.bel.trans (hb.mono h.bel.size), h.tab.below hb, Kd.C_below h.r hb, Kd.C_below h.b hb, Kd.C_below h.p hb⟩

theorem encode_a (ad : Addr) (W : World) (ht : RTab W) (h : Kd.C k64 W (some ad) 2 rV) : Calls Tryz.prog 25 #[.slice (some ad) 2 2] W fun e w' => e = .returned (.tuple #[.string encA, .int .i64 0]) ∧ Below W.heap.size W w' :=
  xEncode.calls (some ad) 2 rV _ _ W h (by decide) ht enc_a
theorem decode_a (W : World) : Calls Tryz.prog 56 #[.string encA] W fun e w' => (∃ A c, e = .returned (.tuple #[.slice A 2 c, .int .i64 0]) ∧ 2 ≤ c ∧ Kd.C k64 w' A 2 rV) ∧ Below W.heap.size W w' := by
  refine (xDecode.calls encA _ _ W dec_a).mono ?_
  rintro e w' ⟨v, rfl, hR, hb⟩
  obtain ⟨A, c, he, hc, hC⟩ := Kd.R_reads hR
  have he' : v = .slice A 2 c := he
  subst he'
  exact ⟨⟨A, c, rfl, hc, hC⟩, hb⟩
theorem pick_c (ad be : Addr) (W : World) (h : Kd.C k64 W (some ad) 2 rV) (hi : Kd.C (Kd.int .i64) W (some be) 2 [1, 1]) : Calls Tryz.prog 27 #[.slice (some ad) 2 2, .slice (some be) 2 2] W fun e w' => (∃ A c, e = .returned (.tuple #[.slice A 2 c, .int .i64 0]) ∧ 2 ≤ c ∧ Kd.C k64 w' A 2 [aV, aV]) ∧ Below W.heap.size W w' := by
  refine (row_Pick.calls 10 (some ad) 2 rV (some be) 2 [1, 1] _ _ W h (by decide) hi (by decide) pick_a).mono ?_
  rintro e w' ⟨v, rfl, hR, hb⟩
  obtain ⟨A, c, he, hc, hC⟩ := Kd.R_reads hR
  have he' : v = .slice A 2 c := he
  subst he'
  exact ⟨⟨A, c, rfl, hc, hC⟩, hb⟩
theorem same_c (ad : Addr) (A : Option Addr) (c : Nat) (hc : 2 ≤ c) (W : World) (h : Kd.C k64 W (some ad) 2 rV) (hb : Kd.C k64 W A 2 rV) : Calls Tryz.prog 33 #[.slice (some ad) 2 2, .slice A 2 c] W fun e w' => e = .returned (.bool true) ∧ Below W.heap.size W w' := by
  refine (freshetref02_Same.calls 10 (some ad) 2 rV A c rV _ W h (by decide) hb hc same_a).mono ?_
  rintro e w' ⟨rfl, n, rfl⟩
  exact ⟨rfl, (by repeat (first | (with_reducible exact Below.refl _ _) | (with_reducible refine below_al ?_ _) | (with_reducible refine below_drewN ?_ _) | (with_reducible refine Below.drew ?_) | (with_reducible refine below_via (by assumption) ?_) | (with_reducible refine below_sc ?_ ?_ _; · (first | (simp; done) | (simp; omega) | omega))))⟩
theorem show_rc (ad : Addr) (W : World) (ht : RTab W) (h : Kd.C k64 W (some ad) 2 rV) : Calls Tryz.prog 34 #[.slice (some ad) 2 2] W fun e w' => e = .returned (.string ⟨#[40, 116, 114, 117, 101, 44, 32, 39, 97, 39, 41]⟩) ∧ Below W.heap.size W w' :=
  row_Show.calls 10 (some ad) 2 rV _ W h (by decide) ht show_ra
theorem cmp_rc (ad : Addr) (W : World) (h : Kd.C k64 W (some ad) 2 rV) : Calls Tryz.prog 31 #[.slice (some ad) 1 2, .slice (some ad) 2 2] W fun e w' => e = .returned (.int .i64 (-1)) ∧ Below W.heap.size W w' :=
  xRowCompare.calls (some ad) 2 [tV] (some ad) 2 rV _ W (Kd.C_take (xs := rV) (m := 1) h (by decide)) (by decide) h (by decide) cmp_ra
theorem snd_rc (ad : Addr) (W : World) (h : Kd.C k64 W (some ad) 2 rV) : Calls Tryz.prog 29 #[.slice (some ad) 2 2] W fun e w' => e = .returned (.bool true) ∧ Below W.heap.size W w' :=
  xRowSound.calls (some ad) 2 rV _ W h (by decide) snd_ra

end Go.Proofs.YthpkjkcfhipjhaaGreatDoor
