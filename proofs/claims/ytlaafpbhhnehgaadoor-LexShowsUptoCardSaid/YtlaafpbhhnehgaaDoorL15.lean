/- (*lex.scanner).token: signs; the whole of it. -/
import Derived.Test.YtlaafpbhhnehgaaDoorL14
namespace Go.Proofs.YtlaafpbhhnehgaaDoor
set_option linter.unusedVariables false
set_option linter.unusedSimpArgs false
open Go.RowKit

set_option maxRecDepth 100000 in
theorem rest_q (b : Nat) (s : ByteArray) (p : Int) (w : World) (h : Sc w b s p) (h0 : 0 ≤ p) (h1 : p ≤ s.size) :
    Calls Tryd.prog 21 #[.pointer (some ⟨b, 0, none⟩)] w fun e w' => e = .returned (.string (dropB s p)) ∧ ∃ m, w' = w.drewN m := by
  obtain ⟨c0, c1, f1⟩ := h
  go_enter Tryd.func21, Tryd.ntmps21
  go_wp2
  repeat (go_quiet (fail); try go_wp2)
  go_ret
  exact ⟨rfl, _, rfl⟩

theorem restU {b : Nat} {s : ByteArray} {p : Nat} {u : ByteArray} (hu : dropB s p = u) (w : World) (h : Sc w b s p) (h0 : 0 ≤ (p : Int)) (h1 : (p : Int) ≤ s.size) :
    Calls Tryd.prog 21 #[.pointer (some ⟨b, 0, none⟩)] w fun e w' => e = .returned (.string u) ∧ ∃ m, w' = w.drewN m := by
  subst hu; exact rest_q b s p w h h0 h1

theorem hpU (u : ByteArray) (l : List UInt8) (hl : u.data.toList = l) (pre : ByteArray) (r : Bool) (h : Lib.hasPrefix l pre.data.toList = r) (w : World) :
    Calls Tryd.prog 42 #[.string u, .string pre] w fun e w' => e = .returned (.bool r) ∧ w' = w := by
  refine (Tryd.strings_HasPrefix u pre w).mono ?_
  rintro e w' ⟨rfl, rfl⟩
  rw [hl, h]; exact ⟨rfl, rfl⟩

theorem ixB (c : UInt8) (i : Int) (hi : Lib.indexByte signsL c = i) (w : World) :
    Calls Tryd.prog 49 #[.string ⟨#[40, 41, 44, 46, 59, 42, 43, 45, 47, 37, 61, 60, 62]⟩, .int .u8 c.toNat] w fun e w' => e = .returned (.int .i64 i) ∧ w' = w := by
  subst hi
  have := Tryd.strings_IndexByte ⟨#[40, 41, 44, 46, 59, 42, 43, 45, 47, 37, 61, 60, 62]⟩ (c.toNat : Int) w
  have e : ((c.toNat : Int)).toNat.toUInt8 = c := by
    apply UInt8.toNat_inj.1
    have := c.toNat_lt
    simp
  rw [e] at this
  exact this

set_option maxRecDepth 100000 in
set_option maxHeartbeats 4000000 in
theorem token_sign (b : Nat) (s : ByteArray) (p : Nat) (w : World) (hs : s.size ≤ 65536) (h : Sc w b s p) (hp : p ≤ s.size) (u : ByteArray) (hu5 : dropB s p = u) (c : UInt8) (t : List UInt8) (ha : At b s p u c t) (hk : isLet c.toNat = false) (hd : isDig c.toNat = false) (hq1 : c ≠ 34) (hq2 : c ≠ 39) :
    Calls Tryd.prog 23 #[.pointer (some ⟨b, 0, none⟩)] w (OutT p (signT (c :: t) c) w) := by
  have hS := hidF h
  have hlt := h.lt
  have hU5 := hidF hu5
  clear h hu5
  have hA := hidF ha
  have z0 := ha.pos
  have g0 := ha.get z0
  clear ha
  have hu := c.toNat_lt
  have n34 : ((c.toNat : Int) == 34) = false := by
    have : c.toNat ≠ 34 := fun hh => hq1 (UInt8.toNat_inj.1 hh)
    simp; omega
  have n39 : ((c.toNat : Int) == 39) = false := by
    have : c.toNat ≠ 39 := fun hh => hq2 (UInt8.toNat_inj.1 hh)
    simp; omega
  obtain ⟨r, hr⟩ : ∃ r, signT (c :: t) c = r := ⟨_, rfl⟩
  rw [hr]
  go_enter Tryd.func23, Tryd.ntmps23
  go_wp2_with (first | (go_at_call 21; (fail_if_success (have := w1)); ((with_reducible refine (hA.out.rest _ (hS.out.below (by repeat (first | (with_reducible exact Below.refl _ _) | (with_reducible refine below_al ?_ _) | (with_reducible refine below_drewN ?_ _) | (with_reducible refine Below.drew ?_) | (with_reducible refine below_via (by assumption) ?_) | (with_reducible refine below_sc ?_ ?_ _; · (first | (simp; done) | (simp; omega) | omega)))))).mono ?_); rintro e w1 ⟨rfl, hb1⟩; (try (replace hb1 := below_undrew hb1)); (try (replace hb1 := below_undrewN hb1)); obtain ⟨hc1, hf1⟩ := bcell hb1; )) | (go_at_call 45; (fail_if_success (have := w1)); ((with_reducible refine (isLetter_c _ (by omega) (by omega) _).mono ?_); rintro e w1 ⟨rfl, hb1⟩; (try (replace hb1 := below_undrew hb1)); (try (replace hb1 := below_undrewN hb1)); obtain ⟨hc1, hf1⟩ := bcell hb1; )) | (go_at_call 29; (fail_if_success (have := w1)); ((with_reducible refine (isDigit_c _ _).mono ?_); rintro e w1 ⟨rfl, hb1⟩; (try (replace hb1 := below_undrew hb1)); (try (replace hb1 := below_undrewN hb1)); obtain ⟨hc1, hf1⟩ := bcell hb1; )) | (go_at_call 21; (fail_if_success (have := w2)); ((with_reducible refine (hA.out.rest _ (hS.out.below (by repeat (first | (with_reducible exact Below.refl _ _) | (with_reducible refine below_al ?_ _) | (with_reducible refine below_drewN ?_ _) | (with_reducible refine Below.drew ?_) | (with_reducible refine below_via (by assumption) ?_) | (with_reducible refine below_sc ?_ ?_ _; · (first | (simp; done) | (simp; omega) | omega)))))).mono ?_); rintro e w2 ⟨rfl, hb2⟩; (try (replace hb2 := below_undrew hb2)); (try (replace hb2 := below_undrewN hb2)); obtain ⟨hc2, hf2⟩ := bcell hb2; (try (have hz_1_2 : w1.heap.size < w2.heap.size := (by have := hb2.size; (try simp at this); omega))))) | (go_at_call 45; (fail_if_success (have := w2)); ((with_reducible refine (isLetter_c _ (by omega) (by omega) _).mono ?_); rintro e w2 ⟨rfl, hb2⟩; (try (replace hb2 := below_undrew hb2)); (try (replace hb2 := below_undrewN hb2)); obtain ⟨hc2, hf2⟩ := bcell hb2; (try (have hz_1_2 : w1.heap.size < w2.heap.size := (by have := hb2.size; (try simp at this); omega))))) | (go_at_call 29; (fail_if_success (have := w2)); ((with_reducible refine (isDigit_c _ _).mono ?_); rintro e w2 ⟨rfl, hb2⟩; (try (replace hb2 := below_undrew hb2)); (try (replace hb2 := below_undrewN hb2)); obtain ⟨hc2, hf2⟩ := bcell hb2; (try (have hz_1_2 : w1.heap.size < w2.heap.size := (by have := hb2.size; (try simp at this); omega))))) | (go_at_call 21; (fail_if_success (have := w3)); ((with_reducible refine (hA.out.rest _ (hS.out.below (by repeat (first | (with_reducible exact Below.refl _ _) | (with_reducible refine below_al ?_ _) | (with_reducible refine below_drewN ?_ _) | (with_reducible refine Below.drew ?_) | (with_reducible refine below_via (by assumption) ?_) | (with_reducible refine below_sc ?_ ?_ _; · (first | (simp; done) | (simp; omega) | omega)))))).mono ?_); rintro e w3 ⟨rfl, hb3⟩; (try (replace hb3 := below_undrew hb3)); (try (replace hb3 := below_undrewN hb3)); obtain ⟨hc3, hf3⟩ := bcell hb3; (try (have hz_1_3 : w1.heap.size < w3.heap.size := (by have := hb3.size; (try simp at this); omega))); (try (have hz_2_3 : w2.heap.size < w3.heap.size := (by have := hb3.size; (try simp at this); omega))))) | (go_at_call 45; (fail_if_success (have := w3)); ((with_reducible refine (isLetter_c _ (by omega) (by omega) _).mono ?_); rintro e w3 ⟨rfl, hb3⟩; (try (replace hb3 := below_undrew hb3)); (try (replace hb3 := below_undrewN hb3)); obtain ⟨hc3, hf3⟩ := bcell hb3; (try (have hz_1_3 : w1.heap.size < w3.heap.size := (by have := hb3.size; (try simp at this); omega))); (try (have hz_2_3 : w2.heap.size < w3.heap.size := (by have := hb3.size; (try simp at this); omega))))) | (go_at_call 29; (fail_if_success (have := w3)); ((with_reducible refine (isDigit_c _ _).mono ?_); rintro e w3 ⟨rfl, hb3⟩; (try (replace hb3 := below_undrew hb3)); (try (replace hb3 := below_undrewN hb3)); obtain ⟨hc3, hf3⟩ := bcell hb3; (try (have hz_1_3 : w1.heap.size < w3.heap.size := (by have := hb3.size; (try simp at this); omega))); (try (have hz_2_3 : w2.heap.size < w3.heap.size := (by have := hb3.size; (try simp at this); omega))))) | (go_at_call 21; (fail_if_success (have := w4)); ((with_reducible refine (hA.out.rest _ (hS.out.below (by repeat (first | (with_reducible exact Below.refl _ _) | (with_reducible refine below_al ?_ _) | (with_reducible refine below_drewN ?_ _) | (with_reducible refine Below.drew ?_) | (with_reducible refine below_via (by assumption) ?_) | (with_reducible refine below_sc ?_ ?_ _; · (first | (simp; done) | (simp; omega) | omega)))))).mono ?_); rintro e w4 ⟨rfl, hb4⟩; (try (replace hb4 := below_undrew hb4)); (try (replace hb4 := below_undrewN hb4)); obtain ⟨hc4, hf4⟩ := bcell hb4; (try (have hz_1_4 : w1.heap.size < w4.heap.size := (by have := hb4.size; (try simp at this); omega))); (try (have hz_2_4 : w2.heap.size < w4.heap.size := (by have := hb4.size; (try simp at this); omega))); (try (have hz_3_4 : w3.heap.size < w4.heap.size := (by have := hb4.size; (try simp at this); omega))))) | (go_at_call 45; (fail_if_success (have := w4)); ((with_reducible refine (isLetter_c _ (by omega) (by omega) _).mono ?_); rintro e w4 ⟨rfl, hb4⟩; (try (replace hb4 := below_undrew hb4)); (try (replace hb4 := below_undrewN hb4)); obtain ⟨hc4, hf4⟩ := bcell hb4; (try (have hz_1_4 : w1.heap.size < w4.heap.size := (by have := hb4.size; (try simp at this); omega))); (try (have hz_2_4 : w2.heap.size < w4.heap.size := (by have := hb4.size; (try simp at this); omega))); (try (have hz_3_4 : w3.heap.size < w4.heap.size := (by have := hb4.size; (try simp at this); omega))))) | (go_at_call 29; (fail_if_success (have := w4)); ((with_reducible refine (isDigit_c _ _).mono ?_); rintro e w4 ⟨rfl, hb4⟩; (try (replace hb4 := below_undrew hb4)); (try (replace hb4 := below_undrewN hb4)); obtain ⟨hc4, hf4⟩ := bcell hb4; (try (have hz_1_4 : w1.heap.size < w4.heap.size := (by have := hb4.size; (try simp at this); omega))); (try (have hz_2_4 : w2.heap.size < w4.heap.size := (by have := hb4.size; (try simp at this); omega))); (try (have hz_3_4 : w3.heap.size < w4.heap.size := (by have := hb4.size; (try simp at this); omega))))))
  go_loopw [61] (fun v wr => ∃ i : Nat, v = .int .i64 i ∧ i ≤ 4 ∧ Below w.heap.size w wr ∧ ∀ j, j < i → Lib.hasPrefix (c :: t) (twoS j) = false) (fun v _ => 4 - (intOf v).toNat)
  case atStart => exact ⟨0, rfl, by omega, (by repeat (first | (with_reducible exact Below.refl _ _) | (with_reducible refine below_al ?_ _) | (with_reducible refine below_drewN ?_ _) | (with_reducible refine Below.drew ?_) | (with_reducible refine below_via (by assumption) ?_) | (with_reducible refine below_sc ?_ ?_ _; · (first | (simp; done) | (simp; omega) | omega)))), fun j hj => absurd hj (by omega)⟩
  case round =>
    obtain ⟨i, rfl, hi4, hBel, hno⟩ := hrel
    have HB := hidF hBel
    have HN := hidF hno
    have HS2 := hidF (hS.out.below hBel)
    have hz : w.heap.size ≤ wr.heap.size := hBel.size
    clear hBel hno hb1 hb2 hb3 hc1 hc2 hc3 hf1 hf2 hf3
    have hcase : i = 0 ∨ i = 1 ∨ i = 2 ∨ i = 3 ∨ i = 4 := by omega
    rcases hcase with rfl | rfl | rfl | rfl | rfl
    · have hr2 : Lib.hasPrefix (c :: t) (twoS 0) = true → r = some (6, twoS 0, 2) := fun hp => by rw [← hr]; unfold signT; simp [hp]
      have HR := hidF hr2
      clear hr2
      have hidx : ∀ w, (Instr.index 67 (.agg #[.string ⟨#[60, 62]⟩, .string ⟨#[60, 61]⟩, .string ⟨#[62, 61]⟩, .string ⟨#[124, 124]⟩]) (.int .i64 0)).run Tryd.prog w = .ok (.string ⟨#[60, 62]⟩) w := fun _ => by kernel_rfl
      cases hp : Lib.hasPrefix (c :: t) (⟨#[60, 62]⟩ : ByteArray).data.toList
      · go_wp2_with (first | (go_at_call 21; (fail_if_success (have := w4)); (with_reducible refine (hA.out.rest _ HS2.out).mono ?_); rintro e w4 ⟨rfl, hb4⟩) | (go_at_call 42; (refine (hpU u (c :: t) hA.out.data ⟨#[60, 62]⟩ _ hp _).mono ?_); rintro e w5 ⟨rfl, rfl⟩))
        go_roundw
        case rel => exact ⟨1, by go_num, by omega, HB.out.trans (hb4.mono hz), fun j hj => by
          by_cases h : j = 0
          · subst h; exact hp
          · exact HN.out j (by omega)⟩
        case measure => simp [intOf]
      · go_wp2_with (first | (go_at_call 21; (fail_if_success (have := w4)); (with_reducible refine (hA.out.rest _ HS2.out).mono ?_); rintro e w4 ⟨rfl, hb4⟩) | (go_at_call 42; (refine (hpU u (c :: t) hA.out.data ⟨#[60, 62]⟩ _ hp _).mono ?_); rintro e w5 ⟨rfl, rfl⟩))
        exact bodyPost_ret (v := .tuple #[.int .i64 6, .string ⟨#[60, 62]⟩, .int .i64 2]) (by simp [results, Tryd.results23, go_sem] <;> rfl) rfl (outT_some (HR.out hp) rfl (HB.out.trans (hb4.mono hz)))
    · have hr2 : Lib.hasPrefix (c :: t) (twoS 1) = true → r = some (6, twoS 1, 2) := fun hp => by rw [← hr]; unfold signT; simp [HN.out 0 (by omega), hp]
      have HR := hidF hr2
      clear hr2
      have hidx : ∀ w, (Instr.index 67 (.agg #[.string ⟨#[60, 62]⟩, .string ⟨#[60, 61]⟩, .string ⟨#[62, 61]⟩, .string ⟨#[124, 124]⟩]) (.int .i64 1)).run Tryd.prog w = .ok (.string ⟨#[60, 61]⟩) w := fun _ => by kernel_rfl
      cases hp : Lib.hasPrefix (c :: t) (⟨#[60, 61]⟩ : ByteArray).data.toList
      · go_wp2_with (first | (go_at_call 21; (fail_if_success (have := w4)); (with_reducible refine (hA.out.rest _ HS2.out).mono ?_); rintro e w4 ⟨rfl, hb4⟩) | (go_at_call 42; (refine (hpU u (c :: t) hA.out.data ⟨#[60, 61]⟩ _ hp _).mono ?_); rintro e w5 ⟨rfl, rfl⟩))
        go_roundw
        case rel => exact ⟨2, by go_num, by omega, HB.out.trans (hb4.mono hz), fun j hj => by
          by_cases h : j = 1
          · subst h; exact hp
          · exact HN.out j (by omega)⟩
        case measure => simp [intOf]
      · go_wp2_with (first | (go_at_call 21; (fail_if_success (have := w4)); (with_reducible refine (hA.out.rest _ HS2.out).mono ?_); rintro e w4 ⟨rfl, hb4⟩) | (go_at_call 42; (refine (hpU u (c :: t) hA.out.data ⟨#[60, 61]⟩ _ hp _).mono ?_); rintro e w5 ⟨rfl, rfl⟩))
        exact bodyPost_ret (v := .tuple #[.int .i64 6, .string ⟨#[60, 61]⟩, .int .i64 2]) (by simp [results, Tryd.results23, go_sem] <;> rfl) rfl (outT_some (HR.out hp) rfl (HB.out.trans (hb4.mono hz)))
    · have hr2 : Lib.hasPrefix (c :: t) (twoS 2) = true → r = some (6, twoS 2, 2) := fun hp => by rw [← hr]; unfold signT; simp [HN.out 0 (by omega), HN.out 1 (by omega), hp]
      have HR := hidF hr2
      clear hr2
      have hidx : ∀ w, (Instr.index 67 (.agg #[.string ⟨#[60, 62]⟩, .string ⟨#[60, 61]⟩, .string ⟨#[62, 61]⟩, .string ⟨#[124, 124]⟩]) (.int .i64 2)).run Tryd.prog w = .ok (.string ⟨#[62, 61]⟩) w := fun _ => by kernel_rfl
      cases hp : Lib.hasPrefix (c :: t) (⟨#[62, 61]⟩ : ByteArray).data.toList
      · go_wp2_with (first | (go_at_call 21; (fail_if_success (have := w4)); (with_reducible refine (hA.out.rest _ HS2.out).mono ?_); rintro e w4 ⟨rfl, hb4⟩) | (go_at_call 42; (refine (hpU u (c :: t) hA.out.data ⟨#[62, 61]⟩ _ hp _).mono ?_); rintro e w5 ⟨rfl, rfl⟩))
        go_roundw
        case rel => exact ⟨3, by go_num, by omega, HB.out.trans (hb4.mono hz), fun j hj => by
          by_cases h : j = 2
          · subst h; exact hp
          · exact HN.out j (by omega)⟩
        case measure => simp [intOf]
      · go_wp2_with (first | (go_at_call 21; (fail_if_success (have := w4)); (with_reducible refine (hA.out.rest _ HS2.out).mono ?_); rintro e w4 ⟨rfl, hb4⟩) | (go_at_call 42; (refine (hpU u (c :: t) hA.out.data ⟨#[62, 61]⟩ _ hp _).mono ?_); rintro e w5 ⟨rfl, rfl⟩))
        exact bodyPost_ret (v := .tuple #[.int .i64 6, .string ⟨#[62, 61]⟩, .int .i64 2]) (by simp [results, Tryd.results23, go_sem] <;> rfl) rfl (outT_some (HR.out hp) rfl (HB.out.trans (hb4.mono hz)))
    · have hr2 : Lib.hasPrefix (c :: t) (twoS 3) = true → r = some (6, twoS 3, 2) := fun hp => by rw [← hr]; unfold signT; simp [HN.out 0 (by omega), HN.out 1 (by omega), HN.out 2 (by omega), hp]
      have HR := hidF hr2
      clear hr2
      have hidx : ∀ w, (Instr.index 67 (.agg #[.string ⟨#[60, 62]⟩, .string ⟨#[60, 61]⟩, .string ⟨#[62, 61]⟩, .string ⟨#[124, 124]⟩]) (.int .i64 3)).run Tryd.prog w = .ok (.string ⟨#[124, 124]⟩) w := fun _ => by kernel_rfl
      cases hp : Lib.hasPrefix (c :: t) (⟨#[124, 124]⟩ : ByteArray).data.toList
      · go_wp2_with (first | (go_at_call 21; (fail_if_success (have := w4)); (with_reducible refine (hA.out.rest _ HS2.out).mono ?_); rintro e w4 ⟨rfl, hb4⟩) | (go_at_call 42; (refine (hpU u (c :: t) hA.out.data ⟨#[124, 124]⟩ _ hp _).mono ?_); rintro e w5 ⟨rfl, rfl⟩))
        go_roundw
        case rel => exact ⟨4, by go_num, by omega, HB.out.trans (hb4.mono hz), fun j hj => by
          by_cases h : j = 3
          · subst h; exact hp
          · exact HN.out j (by omega)⟩
        case measure => simp [intOf]
      · go_wp2_with (first | (go_at_call 21; (fail_if_success (have := w4)); (with_reducible refine (hA.out.rest _ HS2.out).mono ?_); rintro e w4 ⟨rfl, hb4⟩) | (go_at_call 42; (refine (hpU u (c :: t) hA.out.data ⟨#[124, 124]⟩ _ hp _).mono ?_); rintro e w5 ⟨rfl, rfl⟩))
        exact bodyPost_ret (v := .tuple #[.int .i64 6, .string ⟨#[124, 124]⟩, .int .i64 2]) (by simp [results, Tryd.results23, go_sem] <;> rfl) rfl (outT_some (HR.out hp) rfl (HB.out.trans (hb4.mono hz)))
    · have hr2 : r = if 0 ≤ Lib.indexByte signsL c then some (6, [c], 1) else none := by rw [← hr]; unfold signT; simp [HN.out 0 (by omega), HN.out 1 (by omega), HN.out 2 (by omega), HN.out 3 (by omega)]
      have hex : u.extract 0 1 = ⟨#[c]⟩ := by rw [extr, hA.out.data]; rfl
      obtain ⟨ix, hix⟩ : ∃ i, Lib.indexByte signsL c = i := ⟨_, rfl⟩
      rw [hix] at hr2
      by_cases h0 : 0 ≤ ix
      · rw [if_pos h0] at hr2
        have HR := hidF hr2
        clear hr2
        go_wp2_with (first | (go_at_call 21; (fail_if_success (have := w4)); (with_reducible refine (hA.out.rest _ HS2.out).mono ?_); rintro e w4 ⟨rfl, hb4⟩; have HS4 := hidF (HS2.out.below hb4)) | (go_at_call 49; (refine (ixB c ix hix _).mono ?_); rintro e w5 ⟨rfl, hw⟩; replace hw := hw.symm; subst hw) | (go_at_call 22; (with_reducible refine (must_t b w4).mono ?_); rintro e w6 ⟨rfl, hb6⟩))
        have HS6 := hidF (HS4.out.below hb6)
        go_quiet ((go_at_call 21; exact Calls.quiet_of (restU (hU5.out) _ (Sc.below HS6.out (by repeat (first | (with_reducible exact Below.refl _ _) | (with_reducible refine below_al ?_ _) | (with_reducible refine below_drewN ?_ _) | (with_reducible refine Below.drew ?_) | (with_reducible refine below_via (by assumption) ?_) | (with_reducible refine below_sc ?_ ?_ _; · (first | (simp; done) | (simp; omega) | omega))))) (by omega) (by omega))))
        go_wp2
        exact bodyPost_ret (v := .tuple #[.int .i64 6, .string ⟨#[c]⟩, .int .i64 1]) (by simp [results, Tryd.results23, go_sem]) rfl (outT_some HR.out rfl ((HB.out.trans (hb4.mono hz)).trans (below_drewN (hb6.mono (by have := hb4.size; omega)) _)))
      · rw [if_neg h0] at hr2
        have hdf : decide (0 ≤ ix) = false := decide_eq_false h0
        have HR := hidF hr2
        clear hr2
        go_wp2_with (first | (go_at_call 21; (fail_if_success (have := w4)); (with_reducible refine (hA.out.rest _ HS2.out).mono ?_); rintro e w4 ⟨rfl, hb4⟩; have HS4 := hidF (HS2.out.below hb4)) | (go_at_call 49; (refine (ixB c ix hix _).mono ?_); rintro e w5 ⟨rfl, hw⟩; replace hw := hw.symm; subst hw) | (go_at_call 22; (with_reducible refine (must_f b s p w4 HS4.out).mono ?_); rintro e w6 ⟨rfl, hb6⟩))
        exact ⟨rfl, outT_none HR.out rfl ((HB.out.trans (hb4.mono hz)).trans (hb6.mono (by have := hb4.size; omega)))⟩

theorem token_c (b : Nat) (s : ByteArray) (p : Nat) (w : World) (ht : Tab w) (hs : s.size ≤ 65536) (h : Sc w b s p) (hp : p < s.size) :
    Calls Tryd.prog 23 #[.pointer (some ⟨b, 0, none⟩)] w (OutT p (tokL (s.data.toList.drop p)) w) := by
  have hl : p < s.data.toList.length := by rw [← Lib.size_eq]; exact hp
  have hdr : ∃ c t, s.data.toList.drop p = c :: t := ⟨_, _, List.drop_eq_getElem_cons hl⟩
  obtain ⟨c, t, hct⟩ := hdr
  have hp' : p ≤ s.size := by omega
  obtain ⟨u, hu, ha⟩ : ∃ u, dropB s p = u ∧ At b s p u c t := by
    obtain ⟨u, ha⟩ := at_mk b s p hs hp' c t hct
    refine ⟨u, ?_, ha⟩
    apply ByteArray.ext
    apply Array.toList_inj.1
    rw [dropB_list, hct, ha.data]
  rw [hct, tokL]
  cases hk : isLet c.toNat
  · simp only [Bool.false_eq_true, if_false]
    cases hd : isDig c.toNat
    · simp only [Bool.false_eq_true, if_false]
      by_cases h34 : c = 34
      · rw [if_pos h34]; exact token_q34 b s p w ht hs h hp' u c t ha hk hd h34
      · rw [if_neg h34]
        by_cases h39 : c = 39
        · rw [if_pos h39]; exact token_q39 b s p w ht hs h hp' u c t ha hk hd h39
        · rw [if_neg h39]; exact token_sign b s p w hs h hp' u hu c t ha hk hd h34 h39
    · simp only [if_true]; exact token_num b s p w ht hs h hp' u c t ha hk hd
  · simp only [if_true]; exact token_word b s p w ht hs h hp' u c t ha hk

end Go.Proofs.YtlaafpbhhnehgaaDoor
