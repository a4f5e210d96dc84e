/- The reader's text. -/
import Derived.Test.YthpkjkcfhipjhaaGreatDoorR5
namespace Go.Proofs.YthpkjkcfhipjhaaGreatDoor
set_option linter.unusedVariables false
set_option linter.unusedSimpArgs false
open Go.RowKit Go.Proofs.YthpkjkcfhipjhaaGreatDoorW.PrintWords Go.Proofs.YthpkjkcfhipjhaaGreatDoorW.PrintLast

theorem own_fr {B b e size n : Nat} {v : Value} {xs : List Value} {w w' : World} (h : w.ownsRow B e size v n xs) (hf : Fr b w w') (hb : b < B) : w'.ownsRow B e size v n xs := by
  obtain ⟨h1, h2⟩ := h
  refine ⟨h1, ?_⟩
  rcases h2 with h2 | ⟨g, cap, cur, hv, hB, hh, hr⟩
  · exact .inl h2
  · refine .inr ⟨g, cap, cur, hv, hB, ?_, hr⟩
    have hlt : g < w.heap.size := by
      rcases Nat.lt_or_ge g w.heap.size with h' | h'
      · exact h'
      · simp [Array.getElem?_eq_none h'] at hh
    rw [hf.block g hlt (by omega)]; exact hh
theorem Bld.fr {B g b : Nat} {l : List UInt8} {w w' : World} (h : Bld B g l w) (hf : Fr b w w') (hb : b < B) : Bld B g l w' := by
  have hlt := h.lt
  rcases h with ⟨hB, v, hbk, hown, hne⟩ | ⟨hB, v, hbk, hown, hne⟩
  · exact .inl ⟨hB, v, (hf.block g hlt (by omega)).trans hbk, own_fr hown hf hb, hne⟩
  · exact .inr ⟨hB, v, (hf.block g hlt (by omega)).trans hbk, own_fr hown hf hb, hne⟩
theorem Fr.addB {b : Nat} {w w1 w2 : World} (h : Fr b w w1) (k : Below w.heap.size w1 w2) : Fr b w w2 :=
  ⟨k.os.trans h.os, k.tape.trans h.tape, k.output.trans h.output, Nat.le_trans h.size k.size, fun i hi hb => (k.block i hi).trans (h.block i hi hb)⟩
theorem Rd.belowB {B b : Nat} {l : List UInt8} {w w' : World} (h : Rd w b l) (hb : Below B w w') (hB : b < B) : Rd w' b l :=
  ⟨by unfold World.cell?; rw [hb.block b hB]; exact h.c0, by unfold World.frozen?; rw [hb.block b hB]; exact h.f0⟩

/-- what a reading of a text comes to -/
def OutX (b : Nat) (r : Except Int (List UInt8 × List UInt8)) (w : World) (e : Ending) (w' : World) : Prop :=
  match r with
  | .ok (t, rest) => e = .returned (.string (bs t)) ∧ Rd w' b rest ∧ Fr b w w'
  | .error c => e = .panicked (flr c) ∧ Fr b w w'
def restN (w : World) (b : Nat) : Nat := match w.cell? ⟨b, 0, none⟩ with | some (.string s) => s.size | _ => 0
theorem Rd.n {w : World} {b : Nat} {l : List UInt8} (h : Rd w b l) : restN w b = l.length := by unfold restN; rw [h.c0]; exact bs_size l

theorem idx0 (d : UInt8) (w : World) : (Instr.index 9 (.string (bs [d])) (.int .i64 0)).run Tryz.prog w = .ok (.int .u8 d.toNat) w := by
  simp [go_sem, bs]; rfl
theorem bs1_eq (c : UInt8) : ((bs [c]).toList == [0]) = (c == 0) := by
  rw [ByteArray.toList_eq]; simp [bs]
theorem writeByte_0 (B b : Nat) (l : List UInt8) (w : World) (h : Bld B b l w) (hlen : l.length + 1 ≤ 140737488355328) (hBw : B ≤ w.heap.size) :
    Calls Tryz.prog 57 #[.pointer (some ⟨b, 0, none⟩), .int .u8 0] w fun e w' => e = .returned .nilIface ∧ Bld B b (l ++ [0]) w' ∧ Below B w w' := writeByte_c B b l 0 w h hlen hBw
theorem len_b (B g : Nat) (acc : List UInt8) (w : World) (h : Bld B g acc w) : Calls Tryz.prog 121 #[.pointer (some ⟨g, 0, none⟩)] w fun e w' => e = .returned (.int .i64 acc.length) ∧ w = w' := by
  refine (Tryz.Builder_Len B g (Lib.byteCells acc) w h).mono ?_
  rintro e w' ⟨rfl, rfl⟩
  exact ⟨by simp [Lib.byteCells], rfl⟩

set_option maxRecDepth 100000 in
set_option maxHeartbeats 2000000 in
theorem text_c' (b : Nat) (l : List UInt8) (w : World) (h : Rd w b l) (hl : l.length ≤ 140737488355327) :
    Calls Tryz.prog 107 #[.pointer (some ⟨b, 0, none⟩)] w (OutX b (decT [] l) w) := by
  have hlt := h.lt
  have h0 := hidF (show Rd (w.alloc (.cells #[.pointer none, .slice none 0 0] 80)) b l from h.below (by repeat (first | (with_reducible exact Below.refl _ _) | (with_reducible refine below_al ?_ _) | (with_reducible refine below_drewN ?_ _) | (with_reducible refine Below.drew ?_) | (with_reducible refine below_via (by assumption) ?_) | (with_reducible refine below_sc ?_ ?_ _; · (first | (simp; done) | (simp; omega) | omega)))))
  have hF0 := hidF (show Fr b w (w.alloc (.cells #[.pointer none, .slice none 0 0] 80)) from .of (by repeat (first | (with_reducible exact Below.refl _ _) | (with_reducible refine below_al ?_ _) | (with_reducible refine below_drewN ?_ _) | (with_reducible refine Below.drew ?_) | (with_reducible refine below_via (by assumption) ?_) | (with_reducible refine below_sc ?_ ?_ _; · (first | (simp; done) | (simp; omega) | omega)))))
  have hB0 := hidF (bld_new w)
  clear h
  go_enter Tryz.func107, Tryz.ntmps107
  go_wp2
  go_loopw [] (fun wr => ∃ (acc l' : List UInt8), Rd wr b l' ∧ Bld w.heap.size w.heap.size acc wr ∧ Fr b w wr ∧ w.heap.size < wr.heap.size ∧ Hid (decT [] l = decT acc l') ∧ acc.length + l'.length ≤ l.length) (fun wr => restN wr b)
  case atStart => exact ⟨[], l, h0.out, hB0.out, hF0.out, by simp, hidF rfl, by simp⟩
  case round =>
    obtain ⟨acc, l', HR, HB, HF, hws, HE, hle⟩ := hrel
    rw [HE.out]
    have hb : b < w.heap.size := hlt
    match l', HR, HE, hle with
    | [], HR, HE, hle =>
      have HT := hidF (take_short b [] 1 1 rfl wr HR (by decide) (by decide) (by decide))
      rw [decT_nil]
      go_wp2_with (go_at_call 104; (with_reducible refine HT.out.mono ?_); rintro e w' ⟨rfl, rfl⟩)
      exact ⟨rfl, rfl, HF⟩
    | c :: l2, HR, HE, hle =>
      have HT := hidF (take_ok b (c :: l2) 1 1 rfl wr HR (by simp) (by omega))
      simp only [List.take_succ_cons, List.take_zero, List.drop_succ_cons, List.drop_zero] at HT
      have hz := bs1_eq c
      by_cases hc : c = 0
      · subst hc
        have hz1 : ((bs [0]).toList == [0]) = true := hz
        clear hz
        match l2, HR, HE, hle, HT with
        | [], HR, HE, hle, HT =>
          have HU := hidF (fun W (hR : Rd W b []) => take_short b [] 1 1 rfl W hR (by decide) (by decide) (by decide))
          rw [decT_zero]
          go_wp2_with (first | (go_at_call 104; (with_reducible refine HT.out.mono ?_); rintro e w' ⟨rfl, hR1, hF1⟩; clear HT) | (go_at_call 104; (with_reducible refine (HU.out _ hR1).mono ?_); rintro e w'' ⟨rfl, rfl⟩))
          exact ⟨rfl, rfl, HF.trans hF1⟩
        | d :: l3, HR, HE, hle, HT =>
          have HU := hidF (fun W (hR : Rd W b (d :: l3)) => take_ok b (d :: l3) 1 1 rfl W hR (by simp) (by simp at hle ⊢; omega))
          simp only [List.take_succ_cons, List.take_zero, List.drop_succ_cons, List.drop_zero] at HU
          have hix := idx0 d
          have hd0 := d.toNat_lt
          by_cases hd : d = 0
          · have hdz : ((d.toNat : Int) == 0) = true := by rw [hd]; rfl
            rw [hd, decT_end]
            by_cases h4 : acc.length ≤ 4096
            · rw [if_pos h4]
              have hdl : decide ((acc.length : Int) ≤ 4096) = true := decide_eq_true (by omega)
              have hdl2 : decide (acc.length ≤ 4096) = true := decide_eq_true h4
              go_wp2_with (first | (go_at_call 104; (with_reducible refine HT.out.mono ?_); rintro e w' ⟨rfl, hR1, hF1⟩; clear HT) | (go_at_call 104; (with_reducible refine (HU.out _ hR1).mono ?_); rintro e w'' ⟨rfl, hR2, hF2⟩) | (go_at_call 121; (with_reducible refine (len_b w.heap.size w.heap.size acc _ ((HB.fr hF1 hb).fr hF2 hb)).mono ?_); rintro e w3 ⟨rfl, rfl⟩) | (go_at_call 82; (with_reducible refine (rmust_t _ _).mono ?_); rintro e w3 ⟨rfl, rfl⟩) | (go_at_call 63; (with_reducible refine (string_b w.heap.size w.heap.size acc _ ((HB.fr hF1 hb).fr hF2 hb) (by have := hF1.size; have := hF2.size; omega)).mono ?_); rintro e w4 ⟨rfl, hb4⟩))
              go_ret
              exact ⟨rfl, hR2.belowB hb4 hb, ((HF.trans hF1).trans hF2).addB hb4⟩
            · rw [if_neg h4]
              have hdl : decide ((acc.length : Int) ≤ 4096) = false := decide_eq_false (by omega)
              have hdl2 : decide (acc.length ≤ 4096) = false := decide_eq_false h4
              go_wp2_with (first | (go_at_call 104; (with_reducible refine HT.out.mono ?_); rintro e w' ⟨rfl, hR1, hF1⟩; clear HT) | (go_at_call 104; (with_reducible refine (HU.out _ hR1).mono ?_); rintro e w'' ⟨rfl, hR2, hF2⟩) | (go_at_call 121; (with_reducible refine (len_b w.heap.size w.heap.size acc _ ((HB.fr hF1 hb).fr hF2 hb)).mono ?_); rintro e w3 ⟨rfl, rfl⟩) | (go_at_call 82; (with_reducible refine (rmust_f _ _).mono ?_); rintro e w3 ⟨rfl, rfl⟩))
              exact ⟨rfl, rfl, (HF.trans hF1).trans hF2⟩
          · have hdz : ((d.toNat : Int) == 0) = false := by
              have : d.toNat ≠ 0 := fun e => hd (UInt8.toNat_inj.1 e)
              rw [beq_eq_false_iff_ne]; omega
            by_cases hf : d = 255
            · have hdf : ((d.toNat : Int) == 255) = true := by rw [hf]; rfl
              have HE2 : Hid (decT acc (0 :: d :: l3) = decT (acc ++ [0]) l3) := hidF (by rw [hf, decT_esc0])
              clear HE hd hf
              go_wp2_with (first | (go_at_call 104; (with_reducible refine HT.out.mono ?_); rintro e w' ⟨rfl, hR1, hF1⟩; clear HT) | (go_at_call 104; (with_reducible refine (HU.out _ hR1).mono ?_); rintro e w'' ⟨rfl, hR2, hF2⟩) | (go_at_call 82; (with_reducible refine (rmust_t _ _).mono ?_); rintro e w3 ⟨rfl, rfl⟩) | (go_at_call 57; (with_reducible refine (writeByte_0 w.heap.size w.heap.size acc _ ((HB.fr hF1 hb).fr hF2 hb) (by simp at hle; omega) (by have := hF1.size; have := hF2.size; omega)).mono ?_); rintro e w4 ⟨rfl, hB4, hb4⟩))
              have hr0 := HR.n
              have hR4 := hR2.belowB hb4 hb
              have hr4 := hR4.n
              have hs1 := hF1.size
              have hs2 := hF2.size
              have hs4 := hb4.size
              go_roundw
              case rel => exact ⟨acc ++ [0], l3, hR4, hB4, ((HF.trans hF1).trans hF2).addB hb4, hB4.lt, HE2, by simp at hle ⊢; omega⟩
              case measure => rw [hr4, hr0]; simp only [List.length_cons]; omega
            · have hdf : ((d.toNat : Int) == 255) = false := by
                have : d.toNat ≠ 255 := fun e => hf (UInt8.toNat_inj.1 e)
                rw [beq_eq_false_iff_ne]; omega
              rw [decT_odd _ _ _ hd hf]
              clear hd hf
              go_wp2_with (first | (go_at_call 104; (with_reducible refine HT.out.mono ?_); rintro e w' ⟨rfl, hR1, hF1⟩; clear HT) | (go_at_call 104; (with_reducible refine (HU.out _ hR1).mono ?_); rintro e w'' ⟨rfl, hR2, hF2⟩) | (go_at_call 82; (with_reducible refine (rmust_f _ _).mono ?_); rintro e w3 ⟨rfl, rfl⟩))
              exact ⟨rfl, rfl, (HF.trans hF1).trans hF2⟩
      · have hz1 : ((bs [c]).toList == [0]) = false := by rw [hz]; simpa using hc
        have HE2 : Hid (decT acc (c :: l2) = decT (acc ++ [c]) l2) := hidF (by rw [decT_cons _ _ _ hc])
        clear hz HE hc
        have hbl : (bs [c]).size = 1 := bs_size [c]
        go_wp2_with (first | (go_at_call 104; (with_reducible refine HT.out.mono ?_); rintro e w' ⟨rfl, hR1, hF1⟩) | (go_at_call 61; (with_reducible refine (writeString_c w.heap.size w.heap.size acc (bs [c]) _ (HB.fr hF1 hb) (by rw [hbl]; simp at hle; omega) (by have := hF1.size; omega)).mono ?_); rintro e w2 ⟨rfl, hB2, hb2⟩))
        have hr0 := HR.n
        have hR2 := hR1.belowB hb2 hb
        have hr2 := hR2.n
        have hs1 := hF1.size
        have hs2 := hb2.size
        go_roundw
        case rel => exact ⟨acc ++ [c], l2, hR2, hB2, (HF.trans hF1).addB hb2, hB2.lt, HE2, by simp at hle ⊢; omega⟩
        case measure => rw [hr2, hr0]; simp only [List.length_cons]; omega

end Go.Proofs.YthpkjkcfhipjhaaGreatDoor
