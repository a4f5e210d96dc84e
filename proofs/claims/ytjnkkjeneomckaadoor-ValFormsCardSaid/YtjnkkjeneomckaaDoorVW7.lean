/- The walk of 'ValForms': values are made and written as the document says. -/
import Derived.Test.YtjnkkjeneomckaaDoorVR4
import Derived.Test.YtjnkkjeneomckaaDoorVR1
import Derived.Test.YtjnkkjeneomckaaDoorVW6
namespace Go.Proofs.YtjnkkjeneomckaaDoor
set_option linter.unusedVariables false
set_option linter.unusedSimpArgs false
open Go.RowKit

set_option maxRecDepth 100000 in
set_option maxHeartbeats 400000 in
theorem rOfFloat_c (b : Int) (w : World) (h : U64 b) : Calls Tryd.prog 18 #[.int .u64 b] w fun e w' => e = .returned (.agg #[.int .i64 3, .int .i64 0, .int .u64 (plainI b), .string ⟨#[]⟩]) ∧ Below w.heap.size w w' := by
  go_enter Tryd.func18, Tryd.ntmps18
  go_wp2_with (go_at_call 29; refine (rPlain_c _ _ h).mono ?_; rintro e w' ⟨rfl, rfl⟩)
  exact bodyPost_ret (v := .agg #[.int .i64 3, .int .i64 0, .int .u64 (plainI b), .string ⟨#[]⟩]) (by simp [results, Tryd.results18, go_sem]) rfl ⟨rfl, below_box _ _⟩
set_option maxRecDepth 100000 in
set_option maxHeartbeats 400000 in
theorem rOfInt_c (n : Int) (w : World) : Calls Tryd.prog 20 #[.int .i64 n] w fun e w' => e = .returned (.agg #[.int .i64 2, .int .i64 n, .int .u64 0, .string ⟨#[]⟩]) ∧ Below w.heap.size w w' := by
  go_enter Tryd.func20, Tryd.ntmps20
  go_wp2_with fail
  exact bodyPost_ret (v := .agg #[.int .i64 2, .int .i64 n, .int .u64 0, .string ⟨#[]⟩]) (by simp [results, Tryd.results20, go_sem]) rfl ⟨rfl, below_box _ _⟩
set_option maxRecDepth 100000 in
set_option maxHeartbeats 400000 in
theorem rOfBool_c (b : Bool) (w : World) : Calls Tryd.prog 22 #[.bool b] w fun e w' => e = .returned (.agg #[.int .i64 1, .int .i64 (b2i b), .int .u64 0, .string ⟨#[]⟩]) ∧ Below w.heap.size w w' := by
  cases b
  all_goals
    go_enter Tryd.func22, Tryd.ntmps22
    go_wp2_with fail
    exact bodyPost_ret (v := .agg #[.int .i64 1, .int .i64 (b2i _), .int .u64 0, .string ⟨#[]⟩]) (by simp [results, Tryd.results22, go_sem]; rfl) rfl ⟨rfl, (by repeat (first | (with_reducible exact Below.refl _ _) | (with_reducible refine below_al ?_ _) | (with_reducible refine below_drewN ?_ _) | (with_reducible refine Below.drew ?_) | (with_reducible refine below_via (by assumption) ?_) | (with_reducible refine below_sc ?_ ?_ _; · (first | (simp; done) | (simp; omega) | omega))))⟩
set_option maxRecDepth 100000 in
set_option maxHeartbeats 400000 in
theorem rOfText_c (s : ByteArray) (w : World) : Calls Tryd.prog 12 #[.string s] w fun e w' => e = .returned (if s.size ≤ 4096 then .tuple #[.agg #[.int .i64 4, .int .i64 0, .int .u64 0, .string s], .int .i64 0] else .tuple #[.agg #[.int .i64 0, .int .i64 0, .int .u64 0, .string ⟨#[]⟩], .int .i64 12]) ∧ Below w.heap.size w w' := by
  by_cases h : s.size ≤ 4096
  · have h' : ¬ (4096 : Int) < (s.size : Int) := by omega
    rw [if_pos h]
    go_enter Tryd.func12, Tryd.ntmps12
    go_wp2_with fail
    exact bodyPost_ret (v := .tuple #[.agg #[.int .i64 4, .int .i64 0, .int .u64 0, .string s], .int .i64 0]) (by simp [results, Tryd.results12, go_sem]) rfl ⟨rfl, below_box _ _⟩
  · have h' : (4096 : Int) < (s.size : Int) := by omega
    rw [if_neg h]
    go_enter Tryd.func12, Tryd.ntmps12
    go_wp2_with fail
    exact bodyPost_ret (v := .tuple #[.agg #[.int .i64 0, .int .i64 0, .int .u64 0, .string ⟨#[]⟩], .int .i64 12]) (by simp [results, Tryd.results12, go_sem]) rfl ⟨rfl, below_box _ _⟩

theorem rShow_c (k n f : Int) (t : ByteArray) (w : World) (hn : I64 n) (hf : U64 f) : Calls Tryd.prog 16 #[.agg #[.int .i64 k, .int .i64 n, .int .u64 f, .string t]] w fun e w' => e = .returned (.string ⟨(showL k n f t).toArray⟩) ∧ Below w.heap.size w w' := by
  obtain ⟨m, h⟩ := (rShow_ev k n f t hn hf).rounds
  exact PRS.freshetref01_Show.calls m k n f t _ w h

end Go.Proofs.YtjnkkjeneomckaaDoor
namespace Go.Proofs.YtjnkkjeneomckaaDoor
open Go.RowKit

/-- the class of worlds in which the last test is reckoned -/
def Cl3 (w : World) (k n f : Int) (t : ByteArray) (b7 b9 : Nat) (kt : Int) (st : ByteArray) (w' : World) : Prop :=
  Tab w' ∧ TabD w' ∧ Below w.heap.size w w' ∧ VIn w' w.heap.size k n f t ∧ VIn w' b7 kt 0 0 st ∧ VIn w' b9 kt 0 0 st
theorem Cl3.keep {w : World} {k n f : Int} {t : ByteArray} {b7 b9 : Nat} {kt : Int} {st : ByteArray} {w' w'' : World} (h : Cl3 w k n f t b7 b9 kt st w') (hb : Below w'.heap.size w' w'') : Cl3 w k n f t b7 b9 kt st w'' :=
  ⟨h.1.below hb, h.2.1.below hb, h.2.2.1.trans (hb.mono h.2.2.1.size), h.2.2.2.1.keep hb, h.2.2.2.2.1.keep hb, h.2.2.2.2.2.keep hb⟩

set_option maxRecDepth 100000 in
set_option maxHeartbeats 4000000 in
theorem forms_w (k n f : Int) (t : ByteArray) (bb : Int) (s : ByteArray) (kt et : Int) (st : ByteArray) (sv : Bool) (sh : ByteArray) (p : Int) (w : World) (ht : Tab w) (hd : TabD w)
    (o1 : ∀ w, Calls Tryd.prog 11 #[.string s] w fun e w' => e = .returned (.tuple #[.agg #[.int .i64 kt, .int .i64 0, .int .u64 0, .string st], .int .i64 et]) ∧ Below w.heap.size w w')
    (o2 : ∀ w, Calls Tryd.prog 12 #[.string s] w fun e w' => e = .returned (.tuple #[.agg #[.int .i64 kt, .int .i64 0, .int .u64 0, .string st], .int .i64 et]) ∧ Below w.heap.size w w')
    (s1 : ∀ w, Calls Tryd.prog 13 #[.agg #[.int .i64 k, .int .i64 n, .int .u64 f, .string t]] w fun e w' => e = .returned (.bool sv) ∧ Below w.heap.size w w')
    (s2 : ∀ w, Calls Tryd.prog 14 #[.agg #[.int .i64 k, .int .i64 n, .int .u64 f, .string t]] w fun e w' => e = .returned (.bool sv) ∧ Below w.heap.size w w')
    (h1 : ∀ w, Tab w → TabD w → Calls Tryd.prog 15 #[.agg #[.int .i64 k, .int .i64 n, .int .u64 f, .string t]] w fun e w' => e = .returned (.string sh) ∧ Below w.heap.size w w')
    (h2 : ∀ w, Calls Tryd.prog 16 #[.agg #[.int .i64 k, .int .i64 n, .int .u64 f, .string t]] w fun e w' => e = .returned (.string sh) ∧ Below w.heap.size w w')
    (f1 : ∀ w, Calls Tryd.prog 17 #[.int .u64 bb] w fun e w' => e = .returned (.agg #[.int .i64 3, .int .i64 0, .int .u64 p, .string ⟨#[]⟩]) ∧ Below w.heap.size w w')
    (f2 : ∀ w, Calls Tryd.prog 18 #[.int .u64 bb] w fun e w' => e = .returned (.agg #[.int .i64 3, .int .i64 0, .int .u64 p, .string ⟨#[]⟩]) ∧ Below w.heap.size w w') :
    Calls Tryd.prog 3 #[.agg #[.int .i64 k, .int .i64 n, .int .u64 f, .string t], .int .u64 bb, .string s] w fun e w' => e = .returned (.bool true) ∧ Below w.heap.size w w' := by
  have O1 := Lib.hid o1; have O2 := Lib.hid o2; have S1 := Lib.hid s1; have S2 := Lib.hid s2; have H1 := Lib.hid h1; have H2 := Lib.hid h2; have F1 := Lib.hid f1; have F2 := Lib.hid f2
  clear o1 o2 s1 s2 h1 h2 f1 f2
  have hr := run_eqV
  have hq1 : ∀ a b c d, eqV a b c d a b c d = true := fun a b c d => by simp [eqV]
  go_enter Tryd.func3, Tryd.ntmps3
  go_wp2_with (first | (go_at_call 10; (fail_if_success (have := w1)); ((with_reducible refine (awake_c _ (ht.below (by repeat (first | (with_reducible exact Below.refl _ _) | (with_reducible refine below_al ?_ _) | (with_reducible refine below_drewN ?_ _) | (with_reducible refine Below.drew ?_) | (with_reducible refine below_via (by assumption) ?_) | (with_reducible refine below_sc ?_ ?_ _; · (first | (simp; done) | (simp; omega) | omega)))))).mono ?_); rintro e w1 ⟨rfl, hb1⟩; (try (replace hb1 := below_undrew hb1)); (try (replace hb1 := below_undrewN hb1)); obtain ⟨hc1, hf1⟩ := bcell hb1; (try (have hz0_1 : w.heap.size < w1.heap.size := (by have := hb1.size; (try simp at this); omega))))) | (go_at_call 11; (fail_if_success (have := w1)); ((with_reducible refine (O1.out _).mono ?_); rintro e w1 ⟨rfl, hb1⟩; (try (replace hb1 := below_undrew hb1)); (try (replace hb1 := below_undrewN hb1)); obtain ⟨hc1, hf1⟩ := bcell hb1; (try (have hz0_1 : w.heap.size < w1.heap.size := (by have := hb1.size; (try simp at this); omega))))) | (go_at_call 12; (fail_if_success (have := w1)); ((with_reducible refine (O2.out _).mono ?_); rintro e w1 ⟨rfl, hb1⟩; (try (replace hb1 := below_undrew hb1)); (try (replace hb1 := below_undrewN hb1)); obtain ⟨hc1, hf1⟩ := bcell hb1; (try (have hz0_1 : w.heap.size < w1.heap.size := (by have := hb1.size; (try simp at this); omega))))) | (go_at_call 10; (fail_if_success (have := w2)); ((with_reducible refine (awake_c _ (ht.below (by repeat (first | (with_reducible exact Below.refl _ _) | (with_reducible refine below_al ?_ _) | (with_reducible refine below_drewN ?_ _) | (with_reducible refine Below.drew ?_) | (with_reducible refine below_via (by assumption) ?_) | (with_reducible refine below_sc ?_ ?_ _; · (first | (simp; done) | (simp; omega) | omega)))))).mono ?_); rintro e w2 ⟨rfl, hb2⟩; (try (replace hb2 := below_undrew hb2)); (try (replace hb2 := below_undrewN hb2)); obtain ⟨hc2, hf2⟩ := bcell hb2; (try (have hz0_2 : w.heap.size < w2.heap.size := (by have := hb2.size; (try simp at this); omega))); (try (have hz_1_2 : w1.heap.size < w2.heap.size := (by have := hb2.size; (try simp at this); omega))))) | (go_at_call 11; (fail_if_success (have := w2)); ((with_reducible refine (O1.out _).mono ?_); rintro e w2 ⟨rfl, hb2⟩; (try (replace hb2 := below_undrew hb2)); (try (replace hb2 := below_undrewN hb2)); obtain ⟨hc2, hf2⟩ := bcell hb2; (try (have hz0_2 : w.heap.size < w2.heap.size := (by have := hb2.size; (try simp at this); omega))); (try (have hz_1_2 : w1.heap.size < w2.heap.size := (by have := hb2.size; (try simp at this); omega))))) | (go_at_call 12; (fail_if_success (have := w2)); ((with_reducible refine (O2.out _).mono ?_); rintro e w2 ⟨rfl, hb2⟩; (try (replace hb2 := below_undrew hb2)); (try (replace hb2 := below_undrewN hb2)); obtain ⟨hc2, hf2⟩ := bcell hb2; (try (have hz0_2 : w.heap.size < w2.heap.size := (by have := hb2.size; (try simp at this); omega))); (try (have hz_1_2 : w1.heap.size < w2.heap.size := (by have := hb2.size; (try simp at this); omega))))) | (go_at_call 10; (fail_if_success (have := w3)); ((with_reducible refine (awake_c _ (ht.below (by repeat (first | (with_reducible exact Below.refl _ _) | (with_reducible refine below_al ?_ _) | (with_reducible refine below_drewN ?_ _) | (with_reducible refine Below.drew ?_) | (with_reducible refine below_via (by assumption) ?_) | (with_reducible refine below_sc ?_ ?_ _; · (first | (simp; done) | (simp; omega) | omega)))))).mono ?_); rintro e w3 ⟨rfl, hb3⟩; (try (replace hb3 := below_undrew hb3)); (try (replace hb3 := below_undrewN hb3)); obtain ⟨hc3, hf3⟩ := bcell hb3; (try (have hz0_3 : w.heap.size < w3.heap.size := (by have := hb3.size; (try simp at this); omega))); (try (have hz_1_3 : w1.heap.size < w3.heap.size := (by have := hb3.size; (try simp at this); omega))); (try (have hz_2_3 : w2.heap.size < w3.heap.size := (by have := hb3.size; (try simp at this); omega))))) | (go_at_call 11; (fail_if_success (have := w3)); ((with_reducible refine (O1.out _).mono ?_); rintro e w3 ⟨rfl, hb3⟩; (try (replace hb3 := below_undrew hb3)); (try (replace hb3 := below_undrewN hb3)); obtain ⟨hc3, hf3⟩ := bcell hb3; (try (have hz0_3 : w.heap.size < w3.heap.size := (by have := hb3.size; (try simp at this); omega))); (try (have hz_1_3 : w1.heap.size < w3.heap.size := (by have := hb3.size; (try simp at this); omega))); (try (have hz_2_3 : w2.heap.size < w3.heap.size := (by have := hb3.size; (try simp at this); omega))))) | (go_at_call 12; (fail_if_success (have := w3)); ((with_reducible refine (O2.out _).mono ?_); rintro e w3 ⟨rfl, hb3⟩; (try (replace hb3 := below_undrew hb3)); (try (replace hb3 := below_undrewN hb3)); obtain ⟨hc3, hf3⟩ := bcell hb3; (try (have hz0_3 : w.heap.size < w3.heap.size := (by have := hb3.size; (try simp at this); omega))); (try (have hz_1_3 : w1.heap.size < w3.heap.size := (by have := hb3.size; (try simp at this); omega))); (try (have hz_2_3 : w2.heap.size < w3.heap.size := (by have := hb3.size; (try simp at this); omega))))))
  have hB3 : Below w.heap.size w (w3.alloc (.cells #[.int .i64 kt, .int .i64 0, .int .u64 0, .string st] 24)).drew := (by repeat (first | (with_reducible exact Below.refl _ _) | (with_reducible refine below_al ?_ _) | (with_reducible refine below_drewN ?_ _) | (with_reducible refine Below.drew ?_) | (with_reducible refine below_via (by assumption) ?_) | (with_reducible refine below_sc ?_ ?_ _; · (first | (simp; done) | (simp; omega) | omega))))
  have hC : Cl3 w k n f t w2.heap.size w3.heap.size kt st (w3.alloc (.cells #[.int .i64 kt, .int .i64 0, .int .u64 0, .string st] 24)).drew :=
    ⟨ht.below hB3, hd.below hB3, hB3, ⟨by go_simp, by go_simp, by go_simp, by go_simp⟩, ⟨by go_simp, by go_simp, by go_simp, by go_simp⟩, ⟨by go_simp, by go_simp, by go_simp, by go_simp⟩⟩
  refine region_q (C := Cl3 w k n f t w2.heap.size w3.heap.size kt st) (by kernel_rfl) (by kernel_rfl) hC ?_
  clear hC hB3 hb1 hc1 hf1 hb2 hc2 hf2 hb3 hc3 hf3
  repeat (first
    | go_big_quiet_skip
    | (go_big_quiet_want; first
        | (go_big_quiet_op; go_big_quiet_on)
        | (apply Exists.intro
           refine ⟨fun w' hw' => ?_, ?_⟩
           · (have HC := Lib.hid hw'
              obtain ⟨ht1, hd1, hB, ⟨x0, x1, x2, x3⟩, ⟨y0, y1, y2, y3⟩, ⟨z0, z1, z2, z3⟩⟩ := hw'
              have HT := Lib.hid ht1; have HD := Lib.hid hd1; clear ht1 hd1
              go_simp
              first
                | exact rfl
                | ((with_reducible refine (S1.out _).mono ?_); rintro e w'' ⟨rfl, hb⟩; exact ⟨rfl, HC.out.keep hb⟩)
                | ((with_reducible refine (S2.out _).mono ?_); rintro e w'' ⟨rfl, hb⟩; exact ⟨rfl, HC.out.keep hb⟩)
                | ((with_reducible refine (H1.out _ HT.out HD.out).mono ?_); rintro e w'' ⟨rfl, hb⟩; exact ⟨rfl, HC.out.keep hb⟩)
                | ((with_reducible refine (H2.out _).mono ?_); rintro e w'' ⟨rfl, hb⟩; exact ⟨rfl, HC.out.keep hb⟩)
                | ((with_reducible refine (F1.out _).mono ?_); rintro e w'' ⟨rfl, hb⟩; exact ⟨rfl, HC.out.keep hb⟩)
                | ((with_reducible refine (F2.out _).mono ?_); rintro e w'' ⟨rfl, hb⟩; exact ⟨rfl, HC.out.keep hb⟩)
                | ((with_reducible refine (ofInt_c _ _).mono ?_); rintro e w'' ⟨rfl, hb⟩; exact ⟨rfl, HC.out.keep hb⟩)
                | ((with_reducible refine (rOfInt_c _ _).mono ?_); rintro e w'' ⟨rfl, hb⟩; exact ⟨rfl, HC.out.keep hb⟩)
                | ((with_reducible refine (ofBool_c _ _).mono ?_); rintro e w'' ⟨rfl, hb⟩; exact ⟨rfl, HC.out.keep hb⟩)
                | ((with_reducible refine (rOfBool_c _ _).mono ?_); rintro e w'' ⟨rfl, hb⟩; exact ⟨rfl, HC.out.keep hb⟩))
           go_simp
           go_big_quiet_on)))
  refine wpQuiet_nil ?_
  intro w' hw'
  go_wp2_with fail
  go_ret
  exact ⟨by simp, hw'.2.2.1⟩

theorem walkValForms (k n f : Int) (t : ByteArray) (bb : Int) (s : ByteArray)
    (wk : (Lit.int .i64 k).wf = true) (wn : (Lit.int .i64 n).wf = true) (wf : (Lit.int .u64 f).wf = true) (wt : t.size ≤ maxLen) (wb : (Lit.int .u64 bb).wf = true) (ws : s.size ≤ maxLen) (w : World) (ht : Tab w) (hd : TabD w) :
    Calls Tryd.prog 3 #[.agg #[.int .i64 k, .int .i64 n, .int .u64 f, .string t], .int .u64 bb, .string s] w fun e w' => e = .returned (.bool true) ∧ Below w.heap.size w w' := by
  have i64 : ∀ {n : Int}, (Lit.int .i64 n).wf = true → I64 n := fun h => by simp only [Lit.wf, Bool.and_eq_true, decide_eq_true_eq] at h; exact h
  have u64 : ∀ {n : Int}, (Lit.int .u64 n).wf = true → U64 n := fun {n} h => by
    simp only [Lit.wf, Bool.and_eq_true, decide_eq_true_eq] at h
    have h1 : (0 : Int) ≤ n := h.1
    have h2 : n ≤ 18446744073709551615 := h.2
    exact ⟨h1, by omega⟩
  by_cases hs : s.size ≤ 4096
  · refine forms_w k n f t bb s 4 0 s (soundV k n f t) ⟨(showL k n f t).toArray⟩ (plainI bb) w ht hd (fun w => ?_) (fun w => ?_) (fun w => sound_c k n f t w (i64 wn)) (fun w => rSound_c k n f t w (u64 wf)) (fun w h1 h2 => show_c k n f t w (i64 wn) (u64 wf) h1 h2) (fun w => rShow_c k n f t w (i64 wn) (u64 wf)) (fun w => ofFloat_c bb w) (fun w => rOfFloat_c bb w (u64 wb))
    · have := ofText_c s w; simp only [if_pos hs] at this; exact this
    · have := rOfText_c s w; simp only [if_pos hs] at this; exact this
  · refine forms_w k n f t bb s 0 12 ⟨#[]⟩ (soundV k n f t) ⟨(showL k n f t).toArray⟩ (plainI bb) w ht hd (fun w => ?_) (fun w => ?_) (fun w => sound_c k n f t w (i64 wn)) (fun w => rSound_c k n f t w (u64 wf)) (fun w h1 h2 => show_c k n f t w (i64 wn) (u64 wf) h1 h2) (fun w => rShow_c k n f t w (i64 wn) (u64 wf)) (fun w => ofFloat_c bb w) (fun w => rOfFloat_c bb w (u64 wb))
    · have := ofText_c s w; simp only [if_neg hs] at this; exact this
    · have := rOfText_c s w; simp only [if_neg hs] at this; exact this

end Go.Proofs.YtjnkkjeneomckaaDoor
