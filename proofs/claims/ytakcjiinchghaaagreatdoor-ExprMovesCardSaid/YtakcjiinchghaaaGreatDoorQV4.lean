/- a part of the claim: what the card leans on, out of the texts V11 (put together by wip/tools/shake.py). -/
import Derived.Test.YtakcjiinchghaaaGreatDoorQV3
section
namespace Go.Proofs.YtakcjiinchghaaaGreatDoor
set_option linter.unusedVariables false
set_option linter.unusedSimpArgs false
open Go.RowKit
/-- a value's text -/
def showL (k n f : Int) (t : ByteArray) : List UInt8 :=
  if !soundV k n f t then [] else if k = 0 then [78, 85, 76, 76] else if k = 1 then Lib.formatBool (n == 1) else if k = 2 then Lib.itoa n
  else if k = 4 then quotedL t.data.toList else [48, 120] ++ hexP 16 f.toNat
theorem repL (c : Nat) : Lib.repeatL (⟨#[48]⟩ : ByteArray).data.toList c = List.replicate c 48 := by
  induction c with
  | zero => rfl
  | succ c ih => rw [List.replicate_succ, ← ih]; rfl
theorem rep_c (c : Int) (w : World) (h0 : 0 ≤ c) (h1 : c ≤ 16) : Calls Tryz.prog 88 #[.string ⟨#[48]⟩, .int .i64 c] w fun e w' => e = .returned (.string ⟨(List.replicate c.toNat 48).toArray⟩) ∧ Below w.heap.size w w' := by
  obtain ⟨n, rfl⟩ := Int.eq_ofNat_of_zero_le h0
  rw [show ((n : Int)).toNat = n from rfl, ← repL n]
  exact Tryz.strings_Repeat ⟨#[48]⟩ n w (by omega) (by show 1 * n ≤ _; omega)
set_option maxRecDepth 100000 in
set_option maxHeartbeats 2000000 in
theorem show_no (k n f : Int) (t : ByteArray) (w : World) (hn : I64 n) (hs : soundV k n f t = false) : Calls Tryz.prog 51 #[.agg #[.int .i64 k, .int .i64 n, .int .u64 f, .string t]] w fun e w' => e = .returned (.string ⟨#[]⟩) ∧ Below w.heap.size w w' := by
  have S := Lib.hid (fun w => sound_c k n f t w hn); rw [hs] at S; clear hs
  go_enter Tryz.func51, Tryz.ntmps51
  go_wp2_with (first | (go_at_call 28; (fail_if_success (have := w1)); ((with_reducible refine (S.out _).mono ?_); rintro e w1 ⟨rfl, hb1⟩; (try (replace hb1 := below_undrew hb1)); (try (replace hb1 := below_undrewN hb1)); obtain ⟨hc1, hf1⟩ := bcell hb1; (try (have hz0_1 : w.heap.size < w1.heap.size := (by have := hb1.size; (try simp at this); omega))))))
  go_ret; exact ⟨rfl, (by repeat (first | (with_reducible exact Below.refl _ _) | (with_reducible refine below_al ?_ _) | (with_reducible refine below_drewN ?_ _) | (with_reducible refine Below.drew ?_) | (with_reducible refine below_via (by assumption) ?_) | (with_reducible refine below_sc ?_ ?_ _; · (first | (simp; done) | (simp; omega) | omega))))⟩
set_option maxRecDepth 100000 in
set_option maxHeartbeats 2000000 in
theorem show_null (n f : Int) (t : ByteArray) (w : World) (hn : I64 n) (hs : soundV 0 n f t = true) : Calls Tryz.prog 51 #[.agg #[.int .i64 0, .int .i64 n, .int .u64 f, .string t]] w fun e w' => e = .returned (.string ⟨#[78, 85, 76, 76]⟩) ∧ Below w.heap.size w w' := by
  have S := Lib.hid (fun w => sound_c 0 n f t w hn); rw [hs] at S; clear hs
  go_enter Tryz.func51, Tryz.ntmps51
  go_wp2_with (first | (go_at_call 28; (fail_if_success (have := w1)); ((with_reducible refine (S.out _).mono ?_); rintro e w1 ⟨rfl, hb1⟩; (try (replace hb1 := below_undrew hb1)); (try (replace hb1 := below_undrewN hb1)); obtain ⟨hc1, hf1⟩ := bcell hb1; (try (have hz0_1 : w.heap.size < w1.heap.size := (by have := hb1.size; (try simp at this); omega))))))
  go_ret; exact ⟨rfl, (by repeat (first | (with_reducible exact Below.refl _ _) | (with_reducible refine below_al ?_ _) | (with_reducible refine below_drewN ?_ _) | (with_reducible refine Below.drew ?_) | (with_reducible refine below_via (by assumption) ?_) | (with_reducible refine below_sc ?_ ?_ _; · (first | (simp; done) | (simp; omega) | omega))))⟩
set_option maxRecDepth 100000 in
set_option maxHeartbeats 2000000 in
theorem show_bool (n f : Int) (t : ByteArray) (w : World) (hn : I64 n) (hs : soundV 1 n f t = true) : Calls Tryz.prog 51 #[.agg #[.int .i64 1, .int .i64 n, .int .u64 f, .string t]] w fun e w' => e = .returned (.string ⟨(Lib.formatBool (n == 1)).toArray⟩) ∧ Below w.heap.size w w' := by
  have S := Lib.hid (fun w => sound_c 1 n f t w hn); rw [hs] at S; clear hs
  go_enter Tryz.func51, Tryz.ntmps51
  go_wp2_with (first | (first | (go_at_call 28; (fail_if_success (have := w1)); ((with_reducible refine (S.out _).mono ?_); rintro e w1 ⟨rfl, hb1⟩; (try (replace hb1 := below_undrew hb1)); (try (replace hb1 := below_undrewN hb1)); obtain ⟨hc1, hf1⟩ := bcell hb1; (try (have hz0_1 : w.heap.size < w1.heap.size := (by have := hb1.size; (try simp at this); omega)))))) | (go_at_call 85; ((with_reducible refine (Tryz.strconv_FormatBool _ _).mono ?_); rintro e w' ⟨rfl, rfl⟩)))
  go_ret; exact ⟨rfl, (by repeat (first | (with_reducible exact Below.refl _ _) | (with_reducible refine below_al ?_ _) | (with_reducible refine below_drewN ?_ _) | (with_reducible refine Below.drew ?_) | (with_reducible refine below_via (by assumption) ?_) | (with_reducible refine below_sc ?_ ?_ _; · (first | (simp; done) | (simp; omega) | omega))))⟩
set_option maxRecDepth 100000 in
set_option maxHeartbeats 2000000 in
theorem show_int (n f : Int) (t : ByteArray) (w : World) (hn : I64 n) (ht : Tab w) (hs : soundV 2 n f t = true) : Calls Tryz.prog 51 #[.agg #[.int .i64 2, .int .i64 n, .int .u64 f, .string t]] w fun e w' => e = .returned (.string ⟨(Lib.itoa n).toArray⟩) ∧ Below w.heap.size w w' := by
  have S := Lib.hid (fun w => sound_c 2 n f t w hn); rw [hs] at S; clear hs
  have I := Lib.hid (fun w => itoa_c n w hn); clear hn
  go_enter Tryz.func51, Tryz.ntmps51
  go_wp2_with (first | (go_at_call 28; (fail_if_success (have := w1)); ((with_reducible refine (S.out _).mono ?_); rintro e w1 ⟨rfl, hb1⟩; (try (replace hb1 := below_undrew hb1)); (try (replace hb1 := below_undrewN hb1)); obtain ⟨hc1, hf1⟩ := bcell hb1; (try (have hz0_1 : w.heap.size < w1.heap.size := (by have := hb1.size; (try simp at this); omega))))) | (go_at_call 50; (fail_if_success (have := w1)); ((with_reducible refine (I.out _ (ht.below (by repeat (first | (with_reducible exact Below.refl _ _) | (with_reducible refine below_al ?_ _) | (with_reducible refine below_drewN ?_ _) | (with_reducible refine Below.drew ?_) | (with_reducible refine below_via (by assumption) ?_) | (with_reducible refine below_sc ?_ ?_ _; · (first | (simp; done) | (simp; omega) | omega)))))).mono ?_); rintro e w1 ⟨rfl, hb1⟩; (try (replace hb1 := below_undrew hb1)); (try (replace hb1 := below_undrewN hb1)); obtain ⟨hc1, hf1⟩ := bcell hb1; (try (have hz0_1 : w.heap.size < w1.heap.size := (by have := hb1.size; (try simp at this); omega))))) | (go_at_call 28; (fail_if_success (have := w2)); ((with_reducible refine (S.out _).mono ?_); rintro e w2 ⟨rfl, hb2⟩; (try (replace hb2 := below_undrew hb2)); (try (replace hb2 := below_undrewN hb2)); obtain ⟨hc2, hf2⟩ := bcell hb2; (try (have hz0_2 : w.heap.size < w2.heap.size := (by have := hb2.size; (try simp at this); omega))); (try (have hz_1_2 : w1.heap.size < w2.heap.size := (by have := hb2.size; (try simp at this); omega))))) | (go_at_call 50; (fail_if_success (have := w2)); ((with_reducible refine (I.out _ (ht.below (by repeat (first | (with_reducible exact Below.refl _ _) | (with_reducible refine below_al ?_ _) | (with_reducible refine below_drewN ?_ _) | (with_reducible refine Below.drew ?_) | (with_reducible refine below_via (by assumption) ?_) | (with_reducible refine below_sc ?_ ?_ _; · (first | (simp; done) | (simp; omega) | omega)))))).mono ?_); rintro e w2 ⟨rfl, hb2⟩; (try (replace hb2 := below_undrew hb2)); (try (replace hb2 := below_undrewN hb2)); obtain ⟨hc2, hf2⟩ := bcell hb2; (try (have hz0_2 : w.heap.size < w2.heap.size := (by have := hb2.size; (try simp at this); omega))); (try (have hz_1_2 : w1.heap.size < w2.heap.size := (by have := hb2.size; (try simp at this); omega))))))
  go_ret; exact ⟨rfl, (by repeat (first | (with_reducible exact Below.refl _ _) | (with_reducible refine below_al ?_ _) | (with_reducible refine below_drewN ?_ _) | (with_reducible refine Below.drew ?_) | (with_reducible refine below_via (by assumption) ?_) | (with_reducible refine below_sc ?_ ?_ _; · (first | (simp; done) | (simp; omega) | omega))))⟩
set_option maxRecDepth 100000 in
set_option maxHeartbeats 2000000 in
theorem show_float (n : Int) (f : Nat) (t : ByteArray) (w : World) (hn : I64 n) (hf : f < 18446744073709551616) (hd : TabD w) (hs : soundV 3 n f t = true) : Calls Tryz.prog 51 #[.agg #[.int .i64 3, .int .i64 n, .int .u64 f, .string t]] w fun e w' => e = .returned (.string ⟨([48, 120] ++ hexP 16 f).toArray⟩) ∧ Below w.heap.size w w' := by
  have S := Lib.hid (fun w => sound_c 3 n f t w hn); rw [hs] at S; clear hs hn
  have hl := hexS_len 16 f
  have HP := Lib.hid (hexP_S 16 f (by simpa using hf))
  have F := Lib.hid (fun w => sFmtUint_c f w hf); clear hf
  go_enter Tryz.func51, Tryz.ntmps51
  go_wp2_with (first | (first | (go_at_call 28; (fail_if_success (have := w1)); ((with_reducible refine (S.out _).mono ?_); rintro e w1 ⟨rfl, hb1⟩; (try (replace hb1 := below_undrew hb1)); (try (replace hb1 := below_undrewN hb1)); obtain ⟨hc1, hf1⟩ := bcell hb1; (try (have hz0_1 : w.heap.size < w1.heap.size := (by have := hb1.size; (try simp at this); omega))))) | (go_at_call 87; (fail_if_success (have := w1)); ((with_reducible refine (F.out _ (hd.below (by repeat (first | (with_reducible exact Below.refl _ _) | (with_reducible refine below_al ?_ _) | (with_reducible refine below_drewN ?_ _) | (with_reducible refine Below.drew ?_) | (with_reducible refine below_via (by assumption) ?_) | (with_reducible refine below_sc ?_ ?_ _; · (first | (simp; done) | (simp; omega) | omega)))))).mono ?_); rintro e w1 ⟨rfl, hb1⟩; (try (replace hb1 := below_undrew hb1)); (try (replace hb1 := below_undrewN hb1)); obtain ⟨hc1, hf1⟩ := bcell hb1; (try (have hz0_1 : w.heap.size < w1.heap.size := (by have := hb1.size; (try simp at this); omega))))) | (go_at_call 28; (fail_if_success (have := w2)); ((with_reducible refine (S.out _).mono ?_); rintro e w2 ⟨rfl, hb2⟩; (try (replace hb2 := below_undrew hb2)); (try (replace hb2 := below_undrewN hb2)); obtain ⟨hc2, hf2⟩ := bcell hb2; (try (have hz0_2 : w.heap.size < w2.heap.size := (by have := hb2.size; (try simp at this); omega))); (try (have hz_1_2 : w1.heap.size < w2.heap.size := (by have := hb2.size; (try simp at this); omega))))) | (go_at_call 87; (fail_if_success (have := w2)); ((with_reducible refine (F.out _ (hd.below (by repeat (first | (with_reducible exact Below.refl _ _) | (with_reducible refine below_al ?_ _) | (with_reducible refine below_drewN ?_ _) | (with_reducible refine Below.drew ?_) | (with_reducible refine below_via (by assumption) ?_) | (with_reducible refine below_sc ?_ ?_ _; · (first | (simp; done) | (simp; omega) | omega)))))).mono ?_); rintro e w2 ⟨rfl, hb2⟩; (try (replace hb2 := below_undrew hb2)); (try (replace hb2 := below_undrewN hb2)); obtain ⟨hc2, hf2⟩ := bcell hb2; (try (have hz0_2 : w.heap.size < w2.heap.size := (by have := hb2.size; (try simp at this); omega))); (try (have hz_1_2 : w1.heap.size < w2.heap.size := (by have := hb2.size; (try simp at this); omega)))))) | (go_at_call 88; ((with_reducible refine (rep_c _ _ (by omega) (by omega)).mono ?_); rintro e w3 ⟨rfl, hb⟩; obtain ⟨hc, hf⟩ := bcell hb)))
  go_ret
  refine ⟨congrArg (fun x => Ending.returned (Value.string x)) ?_, (by repeat (first | (with_reducible exact Below.refl _ _) | (with_reducible refine below_al ?_ _) | (with_reducible refine below_drewN ?_ _) | (with_reducible refine Below.drew ?_) | (with_reducible refine below_via (by assumption) ?_) | (with_reducible refine below_sc ?_ ?_ _; · (first | (simp; done) | (simp; omega) | omega))))⟩
  rw [← HP.out]
  apply ByteArray.ext
  simp
theorem show_c (k n f : Int) (t : ByteArray) (w : World) (hn : I64 n) (hf : U64 f) (ht : Tab w) (hd : TabD w) : Calls Tryz.prog 51 #[.agg #[.int .i64 k, .int .i64 n, .int .u64 f, .string t]] w fun e w' => e = .returned (.string ⟨(showL k n f t).toArray⟩) ∧ Below w.heap.size w w' := by
  obtain ⟨h0, h1⟩ := hf
  cases hs : soundV k n f t with
  | false =>
    have : showL k n f t = [] := by simp [showL, hs]
    rw [this]; exact show_no k n f t w hn hs
  | true =>
    have hk : k = 0 ∨ k = 1 ∨ k = 2 ∨ k = 3 ∨ k = 4 := by
      unfold soundV at hs
      by_cases a0 : k = 0; · simp [a0]
      by_cases a1 : k = 1; · simp [a1]
      by_cases a2 : k = 2; · simp [a2]
      by_cases a3 : k = 3; · simp [a3]
      by_cases a4 : k = 4; · simp [a4]
      simp [a0, a1, a2, a3, a4] at hs
    rcases hk with rfl | rfl | rfl | rfl | rfl
    · have : showL 0 n f t = [78, 85, 76, 76] := by simp [showL, hs]
      rw [this]; exact show_null n f t w hn hs
    · have : showL 1 n f t = Lib.formatBool (n == 1) := by simp [showL, hs]
      rw [this]; exact show_bool n f t w hn hs
    · have : showL 2 n f t = Lib.itoa n := by simp [showL, hs]
      rw [this]; exact show_int n f t w hn ht hs
    · have : showL 3 n f t = [48, 120] ++ hexP 16 f.toNat := by simp [showL, hs]
      rw [this]
      obtain ⟨m, rfl⟩ := Int.eq_ofNat_of_zero_le h0
      exact show_float n m t w hn (by omega) hd hs
    · have : showL 4 n f t = quotedL t.data.toList := by simp [showL, hs]
      rw [this]
      have e := hs
      simp [soundV, eqV] at e
      obtain ⟨⟨rfl, rfl⟩, h4⟩ := e
      exact show_text_c t w h4 hs
end Go.Proofs.YtakcjiinchghaaaGreatDoor
end
