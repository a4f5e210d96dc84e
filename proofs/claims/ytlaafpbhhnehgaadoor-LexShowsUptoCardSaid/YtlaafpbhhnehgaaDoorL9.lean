/- (*lex.scanner).skip: past blanks and remarks. -/
import Derived.Test.YtlaafpbhhnehgaaDoorL8
import Derived.Deep.RegionWith
import Derived.BigRegion
namespace Go.Proofs.YtlaafpbhhnehgaaDoor
set_option linter.unusedVariables false
set_option linter.unusedSimpArgs false
open Go.RowKit Go.Lib

theorem hidF {p : Prop} (h : p) : Hid p := h

def atOf (w : World) (b : Nat) : Nat := match w.cell? ⟨b, 1, none⟩ with | some (.int _ n) => n.toNat | _ => 0
theorem Sc.at_ {w : World} {b : Nat} {s : ByteArray} {p : Nat} (h : Sc w b s p) : atOf w b = p := by unfold atOf; rw [h.c1]; simp

/-- what skip leaves -/
def SkipPost (b : Nat) (s : ByteArray) (l : List UInt8) (w : World) (e : Ending) (w' : World) : Prop :=
  ∃ q : Nat, q ≤ s.size ∧ Fr b w w' ∧ Sc w' b s q ∧ ((skipL 0 [] l = (s.data.toList.drop q, true) ∧ e = .returned (.tuple #[])) ∨ (skipL 0 [] l = (s.data.toList.drop q, false) ∧ e = .panicked (fl q)))

set_option maxRecDepth 100000 in
set_option maxHeartbeats 20000000 in
theorem skip_c (b : Nat) (s : ByteArray) (p : Nat) (w0 w : World) (ht : Tab w0) (hb0 : Below w0.heap.size w0 w) (hB : w0.heap.size ≤ b) (hs : s.size ≤ 65536) (h : Sc w b s p) (hp : p ≤ s.size) :
    Calls Tryd.prog 20 #[.pointer (some ⟨b, 0, none⟩)] w (SkipPost b s (s.data.toList.drop p) w) := by
  have hHT := hidF ht
  have hHB := hidF hb0
  clear ht hb0
  go_enter Tryd.func20, Tryd.ntmps20
  go_wp2
  go_loopw [] (fun wr => ∃ r : Nat, r ≤ s.size ∧ Fr b w wr ∧ Sc wr b s r ∧ skipL 0 [] (s.data.toList.drop p) = skipL 0 [] (s.data.toList.drop r)) (fun wr => s.size - atOf wr b)
  case atStart => exact ⟨p, hp, Fr.refl _ _, h, rfl⟩
  case round =>
    obtain ⟨r, hr, HF, HS, he⟩ := hrel
    obtain ⟨n, hn, hd⟩ := drop_trim (s.data.toList.drop r)
    rw [List.drop_drop] at hd
    obtain ⟨q, rfl⟩ : ∃ q, q = r + n := ⟨_, rfl⟩
    generalize hq : r + n = q at hd
    have hqs : q ≤ s.size := by
      rw [List.length_drop, ← Lib.size_eq] at hn; omega
    rw [skip_trim (s.data.toList.drop r), hd] at he
    have hsz : (s.size : Int) - ((dropB s q).size : Int) = q := by rw [dropB_size]; omega
    have hwr : IntKind.i64.wrap (q : Int) = q := by rw [IntKind.wrap_i64]; omega
    have hSC := hidF HS
    obtain ⟨c0, c1, f1⟩ := HS
    have hlt := World.block_lt_of_cell? wr _ c0
    simp only at hlt
    go_wp2_with fail
    have h1s := hHT.out.one
    have hsp : ∀ c t, s.data.toList.drop q = c :: t → sp c = false := fun c t hh => trim_head _ c t (hd.trans hh)
    go_region_with (first | (go_at_call 21; (fail_if_success (have := w1)); (with_reducible refine (rest_c b s r wr.drew (hSC.out.below (Below.refl _ _).drew) (by omega) (by omega)).mono ?_); rintro e w1 ⟨rfl, hb1⟩; have S1 := (hSC.out.below (Below.refl _ _).drew).below hb1; have hS1 := hidF S1; obtain ⟨c10, c11, f11⟩ := S1) | (go_at_call 41; (with_reducible refine (trimB s r q hd _).mono ?_); rintro e w2 ⟨rfl, hb2⟩; have S2 := hS1.out.below hb2; have hS2 := hidF (S2.set q); obtain ⟨c20, c21, f21⟩ := S2))
    all_goals
      have SW := hS2.out
      have FW : Fr b w (w2.setCell ⟨b, 1, none⟩ (.int .i64 q)) := (((HF.add (Below.refl _ _).drew).add hb1).add hb2).set 1 _
      clear hb1 hb2 hS1 hS2 c10 c11 f11 c20 c21 f21
      generalize w2.setCell ⟨b, 1, none⟩ (.int .i64 q) = W at *
      clear w2 w1
      have hSW := hidF SW
      obtain ⟨d0, d1, g1⟩ := SW
      cases hA : hasPrefix (s.data.toList.drop q) [45, 45]
      case' false => cases hC : hasPrefix (s.data.toList.drop q) [47, 42]
      case' false.true =>
        obtain ⟨hm1, hm2⟩ := skip_rem2 _ hC
        obtain ⟨ix, hix⟩ : ∃ i, index ((s.data.toList.drop q).drop 2) [42, 47] = i := ⟨_, rfl⟩
        have hlen : 2 ≤ s.size - q := by
          obtain ⟨t, ht⟩ := pre2 hC
          have := congrArg List.length ht
          rw [List.length_drop, ← Lib.size_eq] at this; simp at this; omega
        have hds : (dropB s q).size = s.size - q := dropB_size s q
        have hex : (dropB s q).extract 2 (s.size - q) = dropB s (q + 2 : Nat) := by have := dropB_drop2 s q; rwa [hds] at this
        have hq2 : Hid (dropB s ((q : Int) + 2) = dropB s (q + 2 : Nat)) := hidF (congrArg (dropB s) (by omega))
        by_cases hneg : ix = -1
        · have hi0 : (decide (0 ≤ ix)) = false := by rw [hneg]; rfl
          go_wp2_with (first | (go_at_call 21; (fail_if_success (have := w3)); (with_reducible refine (rest_c b s q W hSW.out (by omega) (by omega)).mono ?_); rintro e w3 ⟨rfl, hb3⟩; have S3 := hSW.out.below hb3; have hS3 := hidF S3; have F3 := hidF (FW.add hb3); have B3 := hidF ((FW.add hb3).below hHB.out hB hHB.out.size); obtain ⟨c30, c31, f31⟩ := S3) | (go_at_call 42; (with_reducible refine (hpB s q ⟨#[45, 45]⟩ _ hA w3).mono ?_); rintro e w' ⟨rfl, hw⟩; replace hw := hw.symm; subst hw) | (go_at_call 42; (with_reducible refine (hpB s q ⟨#[47, 42]⟩ _ hC w3).mono ?_); rintro e w' ⟨rfl, hw⟩; replace hw := hw.symm; subst hw) | (go_at_call 44; (with_reducible refine (indexB s q hs w0 w3 hHT.out B3.out h1s _ hq2.out ix hix).mono ?_); rintro e w' ⟨rfl, hw⟩; replace hw := hw.symm; subst hw) | (go_at_call 22; (with_reducible refine (must_f b s q w3 hS3.out).mono ?_); rintro e w5 ⟨rfl, hb5⟩))
          exact ⟨rfl, q, hqs, F3.out.add hb5, hS3.out.below hb5, .inr ⟨by rw [he, hm1 (hix.trans hneg)], rfl⟩⟩
        · obtain ⟨n1, rfl⟩ : ∃ n1 : Nat, ix = n1 := ⟨ix.toNat, by have := index_ge ((s.data.toList.drop q).drop 2) [42, 47]; omega⟩
          obtain ⟨hl1, hl2⟩ := hm2 n1 hix
          rw [List.length_drop, ← Lib.size_eq] at hl2
          go_wp2_with (first | (go_at_call 21; (fail_if_success (have := w3)); (with_reducible refine (rest_c b s q W hSW.out (by omega) (by omega)).mono ?_); rintro e w3 ⟨rfl, hb3⟩; have S3 := hSW.out.below hb3; have hS3 := hidF S3; have F3 := hidF (FW.add hb3); have B3 := hidF ((FW.add hb3).below hHB.out hB hHB.out.size); obtain ⟨c30, c31, f31⟩ := S3) | (go_at_call 42; (with_reducible refine (hpB s q ⟨#[45, 45]⟩ _ hA w3).mono ?_); rintro e w' ⟨rfl, hw⟩; replace hw := hw.symm; subst hw) | (go_at_call 42; (with_reducible refine (hpB s q ⟨#[47, 42]⟩ _ hC w3).mono ?_); rintro e w' ⟨rfl, hw⟩; replace hw := hw.symm; subst hw) | (go_at_call 44; (with_reducible refine (indexB s q hs w0 w3 hHT.out B3.out h1s _ hq2.out _ hix).mono ?_); rintro e w' ⟨rfl, hw⟩; replace hw := hw.symm; subst hw) | (go_at_call 22; (with_reducible refine (must_t b w3).mono ?_); rintro e w5 ⟨rfl, hb5⟩; have S5 := hS3.out.below hb5; have hS5 := hidF S5; have F5 := hidF (F3.out.add hb5); obtain ⟨c50, c51, f51⟩ := S5))
          have ew : (q : Int) + ((n1 : Int) + 4) = ((q + (n1 + 4) : Nat) : Int) := by omega
          have S6 := hS5.out.set ((q + (n1 + 4) : Nat) : Int)
          go_roundw
          case rel =>
            rw [ew]
            exact ⟨q + (n1 + 4), by omega, F5.out.set 1 _, S6, by rw [he, hl1, List.drop_drop]⟩
          case measure =>
            rw [ew, S6.at_, hSC.out.at_]; omega
      case' true =>
        obtain ⟨hl1, hl2, hl3⟩ := skip_line _ hA
        rw [List.length_drop, ← Lib.size_eq] at hl2
        go_wp2_with (first | (go_at_call 21; (fail_if_success (have := w3)); (with_reducible refine (rest_c b s q W hSW.out (by omega) (by omega)).mono ?_); rintro e w3 ⟨rfl, hb3⟩; have S3 := hSW.out.below hb3; have hS3 := hidF S3; have F3 := hidF (FW.add hb3); have B3 := hidF ((FW.add hb3).below hHB.out hB hHB.out.size); obtain ⟨c30, c31, f31⟩ := S3) | (go_at_call 42; (with_reducible refine (hpB s q ⟨#[45, 45]⟩ _ hA w3).mono ?_); rintro e w' ⟨rfl, hw⟩; replace hw := hw.symm; subst hw) | (go_at_call 43; (with_reducible refine (cutB s q hs w0 w3 hHT.out B3.out h1s).mono ?_); rintro e w4 ⟨⟨lt, lu, lv, hlt4, rfl⟩, hb4⟩; have S4 := hS3.out.below hb4; have hS4 := hidF S4; have F4 := hidF (F3.out.add hb4); obtain ⟨c40, c41, f41⟩ := S4))
        generalize (Lib.cut (s.data.toList.drop q) [10]).1.length = n1 at *
        have ew : (q : Int) + (n1 : Int) = ((q + n1 : Nat) : Int) := by omega
        have S5 := hS4.out.set ((q + n1 : Nat) : Int)
        go_roundw
        case rel =>
          rw [ew]
          exact ⟨q + n1, by omega, F4.out.set 1 _, S5, by rw [he, hl1, List.drop_drop]⟩
        case measure =>
          rw [ew, S5.at_, hSC.out.at_]; omega
      case' false =>
        go_wp2_with (first | (go_at_call 21; (fail_if_success (have := w3)); (with_reducible refine (rest_c b s q W hSW.out (by omega) (by omega)).mono ?_); rintro e w3 ⟨rfl, hb3⟩; have S3 := hSW.out.below hb3; have hS3 := hidF S3; have F3 := hidF (FW.add hb3); have B3 := hidF ((FW.add hb3).below hHB.out hB hHB.out.size); obtain ⟨c30, c31, f31⟩ := S3) | (go_at_call 42; (with_reducible refine (hpB s q ⟨#[45, 45]⟩ _ hA w3).mono ?_); rintro e w' ⟨rfl, hw⟩; replace hw := hw.symm; subst hw) | (go_at_call 42; (with_reducible refine (hpB s q ⟨#[47, 42]⟩ _ hC w3).mono ?_); rintro e w' ⟨rfl, hw⟩; replace hw := hw.symm; subst hw))
        go_end0
        exact ⟨q, hqs, F3.out, hS3.out, .inl ⟨by rw [he, skip_end _ hsp hA hC], rfl⟩⟩

end Go.Proofs.YtlaafpbhhnehgaaDoor
