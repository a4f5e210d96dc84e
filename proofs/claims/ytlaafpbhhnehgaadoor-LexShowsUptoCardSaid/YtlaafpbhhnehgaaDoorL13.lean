/- (*lex.scanner).between: what stands between quotes. -/
import Derived.Test.YtlaafpbhhnehgaaDoorL12
import Derived.Test.YtlaafpbhhnehgaaDoorLB
namespace Go.Proofs.YtlaafpbhhnehgaaDoor
set_option linter.unusedVariables false
set_option linter.unusedSimpArgs false
open Go.RowKit

/-- what stands between quotes q, read behind the first of them, and how many letters that takes -/
def betL (q : UInt8) : List UInt8 → Option (List UInt8 × Nat)
  | [] => none
  | [c] => if c = q then some ([], 1) else none
  | c :: d :: t => if c = q then (if d = q then (betL q t).map (fun r => (q :: r.1, r.2 + 2)) else some ([], 1)) else (betL q (d :: t)).map (fun r => (c :: r.1, r.2 + 1))

theorem betL_ne (q c : UInt8) (t : List UInt8) (h : c ≠ q) : betL q (c :: t) = (betL q t).map (fun r => (c :: r.1, r.2 + 1)) := by
  match t with
  | [] => simp [betL, h]
  | d :: t => simp [betL, h]
theorem betL_two (q : UInt8) (t : List UInt8) : betL q (q :: q :: t) = (betL q t).map (fun r => (q :: r.1, r.2 + 2)) := by simp [betL]
theorem betL_end (q : UInt8) (t : List UInt8) (h : Lib.hasPrefix t [q] = false) : betL q (q :: t) = some ([], 1) := by
  match t, h with
  | [], _ => simp [betL]
  | d :: t, h =>
    have : d ≠ q := by rintro rfl; simp [Lib.hasPrefix, List.isPrefixOf] at h
    simp [betL, this]

theorem pre1 {a : UInt8} {l : List UInt8} (h : Lib.hasPrefix l [a] = true) : ∃ t, l = a :: t := by
  match l, h with
  | [], h => simp [Lib.hasPrefix, List.isPrefixOf] at h
  | x :: t, h =>
    simp [Lib.hasPrefix, List.isPrefixOf] at h
    exact ⟨t, by rw [h]⟩
theorem hp1 (l : List UInt8) (c : UInt8) {r : Bool} (h : Lib.hasPrefix l [c] = r) (w : World) :
    Calls Tryd.prog 42 #[.string ⟨l.toArray⟩, .string ⟨#[c]⟩] w fun e w' => e = .returned (.bool r) ∧ w' = w := by
  subst h; exact Tryd.strings_HasPrefix ⟨l.toArray⟩ ⟨#[c]⟩ w

/-- what between answers -/
def OutB (p : Int) (r : Option (List UInt8 × Nat)) (w : World) (e : Ending) (w' : World) : Prop :=
  (match r with
    | some (t, m) => e = .returned (.tuple #[.string ⟨t.toArray⟩, .int .i64 ((m + 1 : Nat) : Int)])
    | none => e = .panicked (fl p)) ∧ Below w.heap.size w w'

theorem bld_drewN {B b : Nat} {l : List UInt8} {w : World} (h : Bld B b l w) (n : Nat) : Bld B b l (w.drewN n) := h

def intOf : Value → Int
  | .int _ n => n
  | _ => 0

set_option maxRecDepth 100000 in
set_option maxHeartbeats 4000000 in
theorem between_c (b : Nat) (s : ByteArray) (p : Nat) (w : World) (hs : s.size ≤ 65536) (h : Sc w b s p) (hp : p ≤ s.size) (c0 : UInt8) (tl : List UInt8) (hc : s.data.toList.drop p = c0 :: tl) :
    Calls Tryd.prog 48 #[.pointer (some ⟨b, 0, none⟩)] w (OutB p (betL c0 tl) w) := by
  have hS := hidF h
  have hlt := h.lt
  obtain ⟨k0, k1, f1⟩ := h
  have cR : ∀ W, Sc W b s p → Calls Tryd.prog 21 #[.pointer (some ⟨b, 0, none⟩)] W fun e w' => e = .returned (.string (dropB s p)) ∧ Below W.heap.size W w' := fun W hW => rest_c b s p W hW (by omega) (by omega)
  have hul := dropB_list s p
  have hus := dropB_size s p
  generalize dropB s p = u at *
  rw [hc] at hul
  have hus5 : u.size ≤ 65536 := by omega
  have hu1 : 1 ≤ u.size := by rw [Lib.size_eq, hul]; simp
  have hq : u.extract 0 1 = ⟨#[c0]⟩ := by rw [extr, hul]; rfl
  have htl : u.data.toList.drop 1 = tl := by rw [hul]; rfl
  clear hul hus hc
  go_enter Tryd.func48, Tryd.ntmps48
  go_wp2_with (go_at_call 21; (with_reducible refine (cR _ hS.out).mono ?_); rintro e w1 ⟨rfl, hb1⟩)
  have hnew := hidF (bld_new w1)
  have hB1 : Below w1.heap.size w1 (w1.alloc (.cells #[.pointer none, .slice none 0 0] 76)) := below_box w1 _
  have hz1 : w.heap.size ≤ w1.heap.size := hb1.size
  go_loopw [7] (fun i wr => ∃ (n : Nat) (acc : List UInt8), 1 ≤ n ∧ n ≤ u.size ∧ acc.length ≤ n ∧ i = .int .i64 n ∧ Bld w1.heap.size w1.heap.size acc wr ∧ Below w1.heap.size w1 wr ∧ w1.heap.size < wr.heap.size ∧ betL c0 tl = (betL c0 (u.data.toList.drop n)).map (fun r => (acc ++ r.1, n - 1 + r.2))) (fun i _ => u.size + 1 - (intOf i).toNat)
  case atStart => exact ⟨1, [], Nat.le_refl _, hu1, by simp, rfl, hnew.out, hB1, by simp, by rw [htl]; cases betL c0 tl <;> simp⟩
  case round =>
    obtain ⟨n, acc, hn1, hnu, hal, rfl, hBd, hBel, hzr, he⟩ := hrel
    have HBel := hidF hBel
    have hBw : Below w.heap.size w wr := hb1.trans (hBel.mono hz1)
    have hS2 := hidF (hS.out.below hBw)
    have HBd := hidF hBd
    have HBw := hidF hBw
    have Hb1 := hidF hb1
    clear hBel hBd hB1 hBw hb1
    by_cases hlt2 : n < u.size
    · rw [get_lt hlt2] at he
      have hi1 : IntKind.i64.wrap ((n : Int) + 1) = (n : Int) + 1 := IntWalk.i64_in _ (by omega)
      by_cases hcq : u[n] = c0
      · have hd : (((u[n]).toNat : Int) != (((⟨#[c0]⟩ : ByteArray)[0]'Nat.zero_lt_one).toNat : Int)) = false := by rw [hcq]; show ((c0.toNat : Int) != c0.toNat) = false; simp
        have hex : u.extract (n + 1) u.size = ⟨(u.data.toList.drop (n + 1)).toArray⟩ := by rw [extr, List.take_of_length_le]; rw [List.length_drop, Lib.size_eq]; omega
        cases hpx : Lib.hasPrefix (u.data.toList.drop (n + 1)) [c0]
        · have hend := betL_end c0 _ hpx
          rw [hcq, hend] at he
          have he2 : Hid (betL c0 tl = some (acc, n)) := hidF (by rw [he]; simp; omega)
          clear he hend hcq
          go_wp2_with fail
          go_quiet (fail)
          go_wp2_with (first | (go_at_call 42; (with_reducible refine (hp1 _ _ hpx _).mono ?_); rintro e w' ⟨rfl, rfl⟩) | (go_at_call 58; (refine (string_b w1.heap.size w1.heap.size acc _ (bld_drewN HBd.out _) (by simp; omega)).mono ?_); rintro e w2 ⟨rfl, hb2⟩))
          exact bodyPost_ret (v := .tuple #[.string ⟨acc.toArray⟩, .int .i64 ((n + 1 : Nat) : Int)]) (by simp [results, Tryd.results48, go_sem]) rfl (by rw [he2.out]; exact ⟨rfl, (below_drewN HBw.out _).trans (hb2.mono hz1)⟩)
        · have htw : ∃ t2, u.data.toList.drop (n + 1) = c0 :: t2 := pre1 hpx
          obtain ⟨t2, ht2⟩ := htw
          have hn2 : n + 2 ≤ u.size := by
            have := congrArg List.length ht2
            rw [List.length_drop, ← Lib.size_eq] at this; simp at this; omega
          have ht3 : u.data.toList.drop (n + 2) = t2 := by rw [show n + 2 = (n + 1) + 1 by omega, ← List.drop_drop, ht2]; rfl
          rw [hcq, ht2, betL_two, ← ht3] at he
          have HE := hidF he
          clear he ht2 ht3 hcq
          have hi2 : IntKind.i64.wrap ((n : Int) + 1 + 1) = (n : Int) + 1 + 1 := IntWalk.i64_in _ (by omega)
          go_wp2_with fail
          go_quiet (fail)
          go_wp2_with (first | (go_at_call 42; (with_reducible refine (hp1 _ _ hpx _).mono ?_); rintro e w' ⟨rfl, rfl⟩) | (go_at_call 56; (refine (writeString_c w1.heap.size w1.heap.size acc ⟨#[c0]⟩ _ (bld_drewN HBd.out _) (by show _ + 1 ≤ _; omega) (by simp; omega)).mono ?_); rintro e w2 ⟨rfl, hB2, hb2⟩))
          go_roundw
          case rel => exact ⟨n + 2, acc ++ [c0], by omega, by omega, by simp; omega, by go_num, hB2, (below_drewN HBel.out _).trans hb2, by have := hb2.size; simp at this; omega, by rw [HE.out]; cases betL c0 (u.data.toList.drop (n + 2)) <;> simp; omega⟩
          case measure => simp [intOf]; omega
      · have hd : (((u[n]).toNat : Int) != (((⟨#[c0]⟩ : ByteArray)[0]'Nat.zero_lt_one).toNat : Int)) = true := by
          show (((u[n]).toNat : Int) != (c0.toNat : Int)) = true
          have hne : (u[n]).toNat ≠ c0.toNat := fun hh => hcq (UInt8.toNat_inj.1 hh)
          simp; omega
        rw [betL_ne _ _ _ hcq] at he
        have HE := hidF he
        clear he
        go_wp2_with fail
        go_quiet (fail)
        go_wp2_with (go_at_call 57; go_loud (refine (writeByte_c w1.heap.size w1.heap.size acc u[n] _ (bld_drewN HBd.out _) (by omega) (by simp; omega)).mono ?_); rintro e w2 ⟨rfl, hB2, hb2⟩)
        go_roundw
        case rel => exact ⟨n + 1, acc ++ [u[n]], by omega, by omega, by simp; omega, by go_num, hB2, (below_drewN HBel.out _).trans hb2, by have := hb2.size; simp at this; omega, by rw [HE.out]; cases betL c0 (u.data.toList.drop (n + 1)) <;> simp; omega⟩
        case measure => simp [intOf]; omega
    · have hne : n = u.size := by omega
      have hnil : betL c0 tl = none := by rw [he, hne, List.drop_of_length_le (by rw [Lib.size_eq]; exact Nat.le_refl _)]; rfl
      have HN := hidF hnil
      clear he hnil
      obtain ⟨d0, d1, g1⟩ := hS2.out
      go_wp2_with fail
      refine ⟨rfl, ?_⟩
      rw [HN.out]
      exact ⟨rfl, HBw.out⟩

end Go.Proofs.YtlaafpbhhnehgaaDoor
