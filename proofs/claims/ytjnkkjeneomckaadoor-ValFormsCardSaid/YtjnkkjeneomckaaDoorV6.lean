/- How val compares. -/
import Derived.Test.YtjnkkjeneomckaaDoorV5
import Derived.Deep.RegionWith
namespace Go.Proofs.YtjnkkjeneomckaaDoor
set_option linter.unusedVariables false
set_option linter.unusedSimpArgs false
open Go.RowKit

def cmpV (k n f : Int) (t : ByteArray) (k' n' f' : Int) (t' : ByteArray) : Int :=
  if !soundV k n f t || !soundV k' n' f' t' then 0
  else if k != k' then Lib.compareInt k k'
  else if k == 3 then cmpF f.toNat f'.toNat
  else if k == 4 then Lib.compareBytes t.data.toList t'.data.toList
  else Lib.compareInt n n'

theorem cmpInt_q (x y : Int) (w : World) : Calls Tryd.prog 37 #[.int .i64 x, .int .i64 y] w fun e w' => e = .returned (.int .i64 (Lib.compareInt x y)) ∧ w = w' :=
  (Tryd.cmp_Compare_int x y w).mono fun _ _ ⟨h1, h2⟩ => ⟨h1, h2.symm⟩
theorem cmpStr_q (x y : ByteArray) (w : World) : Calls Tryd.prog 40 #[.string x, .string y] w fun e w' => e = .returned (.int .i64 (Lib.compareBytes x.data.toList y.data.toList)) ∧ w = w' :=
  (Tryd.strings_Compare x y w).mono fun _ _ ⟨h1, h2⟩ => ⟨h1, h2.symm⟩

set_option maxRecDepth 100000 in
set_option maxHeartbeats 2000000 in
theorem compare_f (n f : Int) (t : ByteArray) (n' f' : Int) (t' : ByteArray) (w : World) (hn : I64 n) (hn' : I64 n') (h1 : soundV 3 n f t = true) (h2 : soundV 3 n' f' t' = true) : Calls Tryd.prog 23 #[.agg #[.int .i64 3, .int .i64 n, .int .u64 f, .string t], .agg #[.int .i64 3, .int .i64 n', .int .u64 f', .string t']] w fun e w' => e = .returned (.int .i64 (cmpF f.toNat f'.toNat)) ∧ Below w.heap.size w w' := by
  go_enter Tryd.func23, Tryd.ntmps23
  go_wp2_with (first | (go_at_call_of 13 (Value.agg #[.int .i64 3, .int .i64 n, .int .u64 f, .string t]); refine (sound_c 3 n f t _ hn).mono ?_; rintro e w' ⟨rfl, hb⟩; obtain ⟨hc, hf⟩ := bcell hb; (try (have hz0 : w.heap.size < w'.heap.size := (by have := hb.size; (try simp at this); omega))); (try (have hz1 : w.heap.size + 1 < w'.heap.size := (by have := hb.size; (try simp at this); omega))); (try (have hz2 : w.heap.size + 2 < w'.heap.size := (by have := hb.size; (try simp at this); omega))); (try (have hz3 : w.heap.size + 3 < w'.heap.size := (by have := hb.size; (try simp at this); omega)))) | (go_at_call 13; refine (sound_c 3 n' f' t' _ hn').mono ?_; rintro e w' ⟨rfl, hb⟩; obtain ⟨hc, hf⟩ := bcell hb; (try (have hz0 : w.heap.size < w'.heap.size := (by have := hb.size; (try simp at this); omega))); (try (have hz1 : w.heap.size + 1 < w'.heap.size := (by have := hb.size; (try simp at this); omega))); (try (have hz2 : w.heap.size + 2 < w'.heap.size := (by have := hb.size; (try simp at this); omega))); (try (have hz3 : w.heap.size + 3 < w'.heap.size := (by have := hb.size; (try simp at this); omega)))))
  go_region_with (first | (go_at_call 39; refine (float_c _ _ _ _ _).mono ?_; rintro e w' ⟨rfl, hb⟩; (try (replace hb := below_undrew hb)); (try (replace hb := below_undrewN hb)); obtain ⟨hc, hf⟩ := bcell hb; (try (have hz0 : w.heap.size < w'.heap.size := (by have := hb.size; (try simp at this); omega))); (try (have hz1 : w.heap.size + 1 < w'.heap.size := (by have := hb.size; (try simp at this); omega))); (try (have hz2 : w.heap.size + 2 < w'.heap.size := (by have := hb.size; (try simp at this); omega))); (try (have hz3 : w.heap.size + 3 < w'.heap.size := (by have := hb.size; (try simp at this); omega)))) | (go_at_call 38; refine (compareFloats_c _ _ _).mono ?_; rintro e w' ⟨rfl, rfl⟩))
  all_goals (go_wp2_with fail; go_ret; exact ⟨rfl, (by repeat (first | (with_reducible exact Below.refl _ _) | (with_reducible refine below_al ?_ _) | (with_reducible refine below_drewN ?_ _) | (with_reducible refine Below.drew ?_) | (with_reducible refine below_via (by assumption) ?_) | (with_reducible refine below_sc ?_ ?_ _; · (first | (simp; done) | (simp; omega) | omega))))⟩)

set_option maxRecDepth 100000 in
set_option maxHeartbeats 2000000 in
theorem compare_c (k n f : Int) (t : ByteArray) (k' n' f' : Int) (t' : ByteArray) (w : World) (hn : I64 n) (hn' : I64 n') : Calls Tryd.prog 23 #[.agg #[.int .i64 k, .int .i64 n, .int .u64 f, .string t], .agg #[.int .i64 k', .int .i64 n', .int .u64 f', .string t']] w fun e w' => e = .returned (.int .i64 (cmpV k n f t k' n' f' t')) ∧ Below w.heap.size w w' := by
  have any : ∀ r : Int, cmpV k n f t k' n' f' t' = r → (∀ (e : Ending) (w' : World), (e = .returned (.int .i64 r) ∧ Below w.heap.size w w') → (e = .returned (.int .i64 (cmpV k n f t k' n' f' t')) ∧ Below w.heap.size w w')) := fun r h e w' ⟨a, b⟩ => ⟨by rw [h]; exact a, b⟩
  cases h1 : soundV k n f t with
  | false =>
    refine Calls.mono ?_ (any 0 (by simp [cmpV, h1]))
    clear any
    go_enter Tryd.func23, Tryd.ntmps23
    go_wp2_with (first | (go_at_call_of 13 (Value.agg #[.int .i64 k, .int .i64 n, .int .u64 f, .string t]); refine (sound_c k n f t _ hn).mono ?_; rintro e w' ⟨rfl, hb⟩; obtain ⟨hc, hf⟩ := bcell hb; (try (have hz0 : w.heap.size < w'.heap.size := (by have := hb.size; (try simp at this); omega))); (try (have hz1 : w.heap.size + 1 < w'.heap.size := (by have := hb.size; (try simp at this); omega))); (try (have hz2 : w.heap.size + 2 < w'.heap.size := (by have := hb.size; (try simp at this); omega))); (try (have hz3 : w.heap.size + 3 < w'.heap.size := (by have := hb.size; (try simp at this); omega)))) | (go_at_call 13; refine (sound_c k' n' f' t' _ hn').mono ?_; rintro e w' ⟨rfl, hb⟩; obtain ⟨hc, hf⟩ := bcell hb; (try (have hz0 : w.heap.size < w'.heap.size := (by have := hb.size; (try simp at this); omega))); (try (have hz1 : w.heap.size + 1 < w'.heap.size := (by have := hb.size; (try simp at this); omega))); (try (have hz2 : w.heap.size + 2 < w'.heap.size := (by have := hb.size; (try simp at this); omega))); (try (have hz3 : w.heap.size + 3 < w'.heap.size := (by have := hb.size; (try simp at this); omega)))) | (go_at_call 37; refine (cmpInt_q _ _ _).mono ?_; rintro e w' ⟨rfl, rfl⟩) | (go_at_call 40; refine (cmpStr_q _ _ _).mono ?_; rintro e w' ⟨rfl, rfl⟩))
    all_goals (go_ret; exact ⟨rfl, (by repeat (first | (with_reducible exact Below.refl _ _) | (with_reducible refine below_al ?_ _) | (with_reducible refine below_drewN ?_ _) | (with_reducible refine Below.drew ?_) | (with_reducible refine below_via (by assumption) ?_) | (with_reducible refine below_sc ?_ ?_ _; · (first | (simp; done) | (simp; omega) | omega))))⟩)
  | true =>
    cases h2 : soundV k' n' f' t' with
    | false =>
      refine Calls.mono ?_ (any 0 (by simp [cmpV, h2]))
      clear any
      go_enter Tryd.func23, Tryd.ntmps23
      go_wp2_with (first | (go_at_call_of 13 (Value.agg #[.int .i64 k, .int .i64 n, .int .u64 f, .string t]); refine (sound_c k n f t _ hn).mono ?_; rintro e w' ⟨rfl, hb⟩; obtain ⟨hc, hf⟩ := bcell hb; (try (have hz0 : w.heap.size < w'.heap.size := (by have := hb.size; (try simp at this); omega))); (try (have hz1 : w.heap.size + 1 < w'.heap.size := (by have := hb.size; (try simp at this); omega))); (try (have hz2 : w.heap.size + 2 < w'.heap.size := (by have := hb.size; (try simp at this); omega))); (try (have hz3 : w.heap.size + 3 < w'.heap.size := (by have := hb.size; (try simp at this); omega)))) | (go_at_call 13; refine (sound_c k' n' f' t' _ hn').mono ?_; rintro e w' ⟨rfl, hb⟩; obtain ⟨hc, hf⟩ := bcell hb; (try (have hz0 : w.heap.size < w'.heap.size := (by have := hb.size; (try simp at this); omega))); (try (have hz1 : w.heap.size + 1 < w'.heap.size := (by have := hb.size; (try simp at this); omega))); (try (have hz2 : w.heap.size + 2 < w'.heap.size := (by have := hb.size; (try simp at this); omega))); (try (have hz3 : w.heap.size + 3 < w'.heap.size := (by have := hb.size; (try simp at this); omega)))) | (go_at_call 37; refine (cmpInt_q _ _ _).mono ?_; rintro e w' ⟨rfl, rfl⟩) | (go_at_call 40; refine (cmpStr_q _ _ _).mono ?_; rintro e w' ⟨rfl, rfl⟩))
      all_goals (go_ret; exact ⟨rfl, (by repeat (first | (with_reducible exact Below.refl _ _) | (with_reducible refine below_al ?_ _) | (with_reducible refine below_drewN ?_ _) | (with_reducible refine Below.drew ?_) | (with_reducible refine below_via (by assumption) ?_) | (with_reducible refine below_sc ?_ ?_ _; · (first | (simp; done) | (simp; omega) | omega))))⟩)
    | true =>
      by_cases h3 : k = k'
      · subst h3
        by_cases h4 : k = 3
        · subst h4
          exact (compare_f n f t n' f' t' w hn hn' h1 h2).mono (any _ (by simp [cmpV, h1, h2]))
        · by_cases h5 : k = 4
          · subst h5
            refine Calls.mono ?_ (any (Lib.compareBytes t.data.toList t'.data.toList) (by simp [cmpV, h1, h2]))
            clear any
            go_enter Tryd.func23, Tryd.ntmps23
            go_wp2_with (first | (go_at_call_of 13 (Value.agg #[.int .i64 4, .int .i64 n, .int .u64 f, .string t]); refine (sound_c 4 n f t _ hn).mono ?_; rintro e w' ⟨rfl, hb⟩; obtain ⟨hc, hf⟩ := bcell hb; (try (have hz0 : w.heap.size < w'.heap.size := (by have := hb.size; (try simp at this); omega))); (try (have hz1 : w.heap.size + 1 < w'.heap.size := (by have := hb.size; (try simp at this); omega))); (try (have hz2 : w.heap.size + 2 < w'.heap.size := (by have := hb.size; (try simp at this); omega))); (try (have hz3 : w.heap.size + 3 < w'.heap.size := (by have := hb.size; (try simp at this); omega)))) | (go_at_call 13; refine (sound_c 4 n' f' t' _ hn').mono ?_; rintro e w' ⟨rfl, hb⟩; obtain ⟨hc, hf⟩ := bcell hb; (try (have hz0 : w.heap.size < w'.heap.size := (by have := hb.size; (try simp at this); omega))); (try (have hz1 : w.heap.size + 1 < w'.heap.size := (by have := hb.size; (try simp at this); omega))); (try (have hz2 : w.heap.size + 2 < w'.heap.size := (by have := hb.size; (try simp at this); omega))); (try (have hz3 : w.heap.size + 3 < w'.heap.size := (by have := hb.size; (try simp at this); omega)))) | (go_at_call 37; refine (cmpInt_q _ _ _).mono ?_; rintro e w' ⟨rfl, rfl⟩) | (go_at_call 40; refine (cmpStr_q _ _ _).mono ?_; rintro e w' ⟨rfl, rfl⟩))
            all_goals (go_ret; exact ⟨rfl, (by repeat (first | (with_reducible exact Below.refl _ _) | (with_reducible refine below_al ?_ _) | (with_reducible refine below_drewN ?_ _) | (with_reducible refine Below.drew ?_) | (with_reducible refine below_via (by assumption) ?_) | (with_reducible refine below_sc ?_ ?_ _; · (first | (simp; done) | (simp; omega) | omega))))⟩)
          · refine Calls.mono ?_ (any (Lib.compareInt n n') (by simp [cmpV, h1, h2, h4, h5]))
            clear any
            go_enter Tryd.func23, Tryd.ntmps23
            go_wp2_with (first | (go_at_call_of 13 (Value.agg #[.int .i64 k, .int .i64 n, .int .u64 f, .string t]); refine (sound_c k n f t _ hn).mono ?_; rintro e w' ⟨rfl, hb⟩; obtain ⟨hc, hf⟩ := bcell hb; (try (have hz0 : w.heap.size < w'.heap.size := (by have := hb.size; (try simp at this); omega))); (try (have hz1 : w.heap.size + 1 < w'.heap.size := (by have := hb.size; (try simp at this); omega))); (try (have hz2 : w.heap.size + 2 < w'.heap.size := (by have := hb.size; (try simp at this); omega))); (try (have hz3 : w.heap.size + 3 < w'.heap.size := (by have := hb.size; (try simp at this); omega)))) | (go_at_call 13; refine (sound_c k n' f' t' _ hn').mono ?_; rintro e w' ⟨rfl, hb⟩; obtain ⟨hc, hf⟩ := bcell hb; (try (have hz0 : w.heap.size < w'.heap.size := (by have := hb.size; (try simp at this); omega))); (try (have hz1 : w.heap.size + 1 < w'.heap.size := (by have := hb.size; (try simp at this); omega))); (try (have hz2 : w.heap.size + 2 < w'.heap.size := (by have := hb.size; (try simp at this); omega))); (try (have hz3 : w.heap.size + 3 < w'.heap.size := (by have := hb.size; (try simp at this); omega)))) | (go_at_call 37; refine (cmpInt_q _ _ _).mono ?_; rintro e w' ⟨rfl, rfl⟩) | (go_at_call 40; refine (cmpStr_q _ _ _).mono ?_; rintro e w' ⟨rfl, rfl⟩))
            all_goals (go_ret; exact ⟨rfl, (by repeat (first | (with_reducible exact Below.refl _ _) | (with_reducible refine below_al ?_ _) | (with_reducible refine below_drewN ?_ _) | (with_reducible refine Below.drew ?_) | (with_reducible refine below_via (by assumption) ?_) | (with_reducible refine below_sc ?_ ?_ _; · (first | (simp; done) | (simp; omega) | omega))))⟩)
      · refine Calls.mono ?_ (any (Lib.compareInt k k') (by simp [cmpV, h1, h2, h3]))
        clear any
        go_enter Tryd.func23, Tryd.ntmps23
        go_wp2_with (first | (go_at_call_of 13 (Value.agg #[.int .i64 k, .int .i64 n, .int .u64 f, .string t]); refine (sound_c k n f t _ hn).mono ?_; rintro e w' ⟨rfl, hb⟩; obtain ⟨hc, hf⟩ := bcell hb; (try (have hz0 : w.heap.size < w'.heap.size := (by have := hb.size; (try simp at this); omega))); (try (have hz1 : w.heap.size + 1 < w'.heap.size := (by have := hb.size; (try simp at this); omega))); (try (have hz2 : w.heap.size + 2 < w'.heap.size := (by have := hb.size; (try simp at this); omega))); (try (have hz3 : w.heap.size + 3 < w'.heap.size := (by have := hb.size; (try simp at this); omega)))) | (go_at_call 13; refine (sound_c k' n' f' t' _ hn').mono ?_; rintro e w' ⟨rfl, hb⟩; obtain ⟨hc, hf⟩ := bcell hb; (try (have hz0 : w.heap.size < w'.heap.size := (by have := hb.size; (try simp at this); omega))); (try (have hz1 : w.heap.size + 1 < w'.heap.size := (by have := hb.size; (try simp at this); omega))); (try (have hz2 : w.heap.size + 2 < w'.heap.size := (by have := hb.size; (try simp at this); omega))); (try (have hz3 : w.heap.size + 3 < w'.heap.size := (by have := hb.size; (try simp at this); omega)))) | (go_at_call 37; refine (cmpInt_q _ _ _).mono ?_; rintro e w' ⟨rfl, rfl⟩) | (go_at_call 40; refine (cmpStr_q _ _ _).mono ?_; rintro e w' ⟨rfl, rfl⟩))
        all_goals (go_ret; exact ⟨rfl, (by repeat (first | (with_reducible exact Below.refl _ _) | (with_reducible refine below_al ?_ _) | (with_reducible refine below_drewN ?_ _) | (with_reducible refine Below.drew ?_) | (with_reducible refine below_via (by assumption) ?_) | (with_reducible refine below_sc ?_ ?_ _; · (first | (simp; done) | (simp; omega) | omega))))⟩)

end Go.Proofs.YtjnkkjeneomckaaDoor
