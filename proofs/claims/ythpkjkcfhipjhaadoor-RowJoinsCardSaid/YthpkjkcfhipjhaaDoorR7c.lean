/- The reader's value: a text, and what is no value; the whole. -/
import Derived.Test.YthpkjkcfhipjhaaDoorR7b
namespace Go.Proofs.YthpkjkcfhipjhaaDoor
set_option linter.unusedVariables false
set_option linter.unusedSimpArgs false
open Go.RowKit Go.Proofs.YthpkjkcfhipjhaaDoorW.PrintWords Go.Proofs.YthpkjkcfhipjhaaDoorW.PrintLast

set_option maxRecDepth 100000 in
set_option maxHeartbeats 2000000 in
theorem value_t (b : Nat) (l t rest : List UInt8) (w : World) (h : Rd w b (4 :: l)) (hl : l.length ≤ 140737488355326) (hd : decT [] l = .ok (t, rest)) :
    Calls Tryd.prog 48 #[.pointer (some ⟨b, 0, none⟩)] w (OutVr b (.ok (⟨4, 0, 0, bs t⟩, rest)) w) := by
  have hlt := h.lt
  have HU := hidF (fun W (hR : Rd W b (4 :: l)) => take_ok b (4 :: l) 1 1 rfl W hR (by simp) (by simp; omega))
  simp only [List.take_succ_cons, List.take_zero, List.drop_succ_cons, List.drop_zero] at HU
  have hix := idx0 4
  have hnb : ¬ w.heap.size = b := by omega
  obtain ⟨u, hu1, hu2, hu3⟩ := esc_decT _ _ _ (Nat.le_refl _) _ _ hd
  have HN : Hid (∀ W, Rd W b l → Calls Tryd.prog 73 #[.pointer (some ⟨b, 0, none⟩)] W fun e w' => e = .returned (.string (bs t)) ∧ Rd w' b rest ∧ Fr b W w') := hidF (fun W hR => (text_c' b l W hR (by omega)).mono (fun e w' ho => by rw [hd] at ho; exact ho))
  have HS := hidF (fun W => sound_c 4 0 0 (bs t) W (by constructor <;> decide))
  rw [sound_txt (bs t) (by rw [bs_size]; exact hu3)] at HS
  clear hu1 hu2 hu3 hd
  generalize bs t = T at *
  go_enter Tryd.func48, Tryd.ntmps48
  go_wp2_with fail
  (with_reducible refine (HU.out _ (h.below (by repeat (first | (with_reducible exact Below.refl _ _) | (with_reducible refine below_al ?_ _) | (with_reducible refine below_drewN ?_ _) | (with_reducible refine Below.drew ?_) | (with_reducible refine below_via (by assumption) ?_) | (with_reducible refine below_sc ?_ ?_ _; · (first | (simp; done) | (simp; omega) | omega)))))).mono ?_)
  rintro e w1 ⟨rfl, hR1, hF1⟩
  have HX := hidF (Bx.fr (Bx.new w 0 0 0 ⟨#[]⟩ 56) hF1 hnb)
  have hF1' := hidF (show Fr b w w1 from Fr.trans (w1 := w.alloc (.cells #[.int .i64 0, .int .i64 0, .int .u64 0, .string ⟨#[]⟩] 56)) (Fr.of (by repeat (first | (with_reducible exact Below.refl _ _) | (with_reducible refine below_al ?_ _) | (with_reducible refine below_drewN ?_ _) | (with_reducible refine Below.drew ?_) | (with_reducible refine below_via (by assumption) ?_) | (with_reducible refine below_sc ?_ ?_ _; · (first | (simp; done) | (simp; omega) | omega))))) hF1)
  have hs1 := hF1.size
  simp at hs1
  clear hF1
  have hnn : ¬ w1.heap.size = w.heap.size := by omega
  have hnn' : ¬ w.heap.size = w1.heap.size := by omega
  have hnb1 : ¬ w1.heap.size = b := by omega
  go_wp2_with (first | (go_at_call 73; (with_reducible refine (HN.out _ (hR1.below (by repeat (first | (with_reducible exact Below.refl _ _) | (with_reducible refine below_al ?_ _) | (with_reducible refine below_drewN ?_ _) | (with_reducible refine Below.drew ?_) | (with_reducible refine below_via (by assumption) ?_) | (with_reducible refine below_sc ?_ ?_ _; · (first | (simp; done) | (simp; omega) | omega)))))).mono ?_); rintro e w3 ⟨rfl, hR3, hF3⟩; have HX3 := hidF (Bx.fr (HX.out.al _) hF3 hnb); have HY3 := hidF (Bx.fr (Bx.new w1 4 0 0 ⟨#[]⟩ 56) hF3 hnb1); have hF3' := hidF (Fr.trans (hF1'.out.al _) hF3); have hs3 := hF3.size; simp at hs3; clear hF3; obtain ⟨d0, d1, d2, d3, e0, e1, e2, e3⟩ := HY3.out) | (go_at_call 60; (with_reducible refine (HS.out _).mono ?_); rintro e w2 ⟨rfl, hb2⟩; have hR2 := hidF (Rd.below (Rd.set hR3 hnb1 _ _) hb2); have hF2' := hidF (Fr.add (Fr.new hF3'.out (by omega) _ _) hb2); have hs2 := hb2.size; simp at hs2; obtain ⟨a0, a1, a2, a3, b0, b1, b2, b3⟩ := (Bx.other HX3.out hnn _ _).below hb2; clear d0 d1 d2 d3 e0 e1 e2 e3; obtain ⟨d0, d1, d2, d3, e0, e1, e2, e3⟩ := (Bx.setT HY3.out _).below hb2; clear hb2) | (go_at_call 47; (with_reducible refine (rmust_t _ _).mono ?_); rintro e w9 ⟨rfl, rfl⟩))
  refine bodyPost_ret (v := .agg #[.int .i64 (4), .int .i64 (0), .int .u64 (0), .string (T)]) (by simp [results, Tryd.results48, go_sem, *]) rfl ⟨rfl, ?_, ?_⟩
  · repeat (refine Rd.set ?_ (by omega) _ _)
    exact hR2.out
  · repeat (refine Fr.new ?_ (by omega) _ _)
    exact hF2'.out

set_option maxRecDepth 100000 in
set_option maxHeartbeats 2000000 in
theorem value_te (b : Nat) (l : List UInt8) (c : Int) (w : World) (h : Rd w b (4 :: l)) (hl : l.length ≤ 140737488355326) (hd : decT [] l = .error c) :
    Calls Tryd.prog 48 #[.pointer (some ⟨b, 0, none⟩)] w (OutVr b (.error c) w) := by
  have hlt := h.lt
  have HU := hidF (fun W (hR : Rd W b (4 :: l)) => take_ok b (4 :: l) 1 1 rfl W hR (by simp) (by simp; omega))
  simp only [List.take_succ_cons, List.take_zero, List.drop_succ_cons, List.drop_zero] at HU
  have hix := idx0 4
  have hnb : ¬ w.heap.size = b := by omega
  have HN : Hid (∀ W, Rd W b l → Calls Tryd.prog 73 #[.pointer (some ⟨b, 0, none⟩)] W fun e w' => e = .panicked (flr c) ∧ Fr b W w') := hidF (fun W hR => (text_c' b l W hR (by omega)).mono (fun e w' ho => by rw [hd] at ho; exact ho))
  clear hd
  go_enter Tryd.func48, Tryd.ntmps48
  go_wp2_with fail
  (with_reducible refine (HU.out _ (h.below (by repeat (first | (with_reducible exact Below.refl _ _) | (with_reducible refine below_al ?_ _) | (with_reducible refine below_drewN ?_ _) | (with_reducible refine Below.drew ?_) | (with_reducible refine below_via (by assumption) ?_) | (with_reducible refine below_sc ?_ ?_ _; · (first | (simp; done) | (simp; omega) | omega)))))).mono ?_)
  rintro e w1 ⟨rfl, hR1, hF1⟩
  have HX := hidF (Bx.fr (Bx.new w 0 0 0 ⟨#[]⟩ 56) hF1 hnb)
  have hF1' := hidF (show Fr b w w1 from Fr.trans (w1 := w.alloc (.cells #[.int .i64 0, .int .i64 0, .int .u64 0, .string ⟨#[]⟩] 56)) (Fr.of (by repeat (first | (with_reducible exact Below.refl _ _) | (with_reducible refine below_al ?_ _) | (with_reducible refine below_drewN ?_ _) | (with_reducible refine Below.drew ?_) | (with_reducible refine below_via (by assumption) ?_) | (with_reducible refine below_sc ?_ ?_ _; · (first | (simp; done) | (simp; omega) | omega))))) hF1)
  have hs1 := hF1.size
  simp at hs1
  clear hF1
  have hnn : ¬ w1.heap.size = w.heap.size := by omega
  have hnn' : ¬ w.heap.size = w1.heap.size := by omega
  have hnb1 : ¬ w1.heap.size = b := by omega
  go_wp2_with (go_at_call 73; (with_reducible refine (HN.out _ (hR1.below (by repeat (first | (with_reducible exact Below.refl _ _) | (with_reducible refine below_al ?_ _) | (with_reducible refine below_drewN ?_ _) | (with_reducible refine Below.drew ?_) | (with_reducible refine below_via (by assumption) ?_) | (with_reducible refine below_sc ?_ ?_ _; · (first | (simp; done) | (simp; omega) | omega)))))).mono ?_); rintro e w3 ⟨rfl, hF3⟩)
  exact ⟨rfl, rfl, Fr.trans (hF1'.out.al _) hF3⟩

set_option maxRecDepth 100000 in
set_option maxHeartbeats 2000000 in
theorem value_odd (b : Nat) (d : UInt8) (l : List UInt8) (w : World) (h : Rd w b (d :: l)) (hl : l.length ≤ 140737488355326) (hd : 4 < d.toNat) :
    Calls Tryd.prog 48 #[.pointer (some ⟨b, 0, none⟩)] w (OutVr b (.error 4) w) := by
  have hlt := h.lt
  have HU := hidF (fun W (hR : Rd W b (d :: l)) => take_ok b (d :: l) 1 1 rfl W hR (by simp) (by simp; omega))
  simp only [List.take_succ_cons, List.take_zero, List.drop_succ_cons, List.drop_zero] at HU
  have hix := idx0 d
  have hnb : ¬ w.heap.size = b := by omega
  have hd0 := d.toNat_lt
  have k0 : ((d.toNat : Int) == 0) = false := by rw [beq_eq_false_iff_ne]; omega
  have k1 : ((d.toNat : Int) == 1) = false := by rw [beq_eq_false_iff_ne]; omega
  have k2 : ((d.toNat : Int) == 2) = false := by rw [beq_eq_false_iff_ne]; omega
  have k3 : ((d.toNat : Int) == 3) = false := by rw [beq_eq_false_iff_ne]; omega
  have k4 : ((d.toNat : Int) == 4) = false := by rw [beq_eq_false_iff_ne]; omega
  go_enter Tryd.func48, Tryd.ntmps48
  go_wp2_with fail
  (with_reducible refine (HU.out _ (h.below (by repeat (first | (with_reducible exact Below.refl _ _) | (with_reducible refine below_al ?_ _) | (with_reducible refine below_drewN ?_ _) | (with_reducible refine Below.drew ?_) | (with_reducible refine below_via (by assumption) ?_) | (with_reducible refine below_sc ?_ ?_ _; · (first | (simp; done) | (simp; omega) | omega)))))).mono ?_)
  rintro e w1 ⟨rfl, hR1, hF1⟩
  have HX := hidF (Bx.fr (Bx.new w 0 0 0 ⟨#[]⟩ 56) hF1 hnb)
  have hF1' := hidF (show Fr b w w1 from Fr.trans (w1 := w.alloc (.cells #[.int .i64 0, .int .i64 0, .int .u64 0, .string ⟨#[]⟩] 56)) (Fr.of (by repeat (first | (with_reducible exact Below.refl _ _) | (with_reducible refine below_al ?_ _) | (with_reducible refine below_drewN ?_ _) | (with_reducible refine Below.drew ?_) | (with_reducible refine below_via (by assumption) ?_) | (with_reducible refine below_sc ?_ ?_ _; · (first | (simp; done) | (simp; omega) | omega))))) hF1)
  have hs1 := hF1.size
  simp at hs1
  clear hF1
  have hnn : ¬ w1.heap.size = w.heap.size := by omega
  have hnn' : ¬ w.heap.size = w1.heap.size := by omega
  have hnb1 : ¬ w1.heap.size = b := by omega
  go_wp2_with (go_at_call 47; (with_reducible refine (rmust_f _ _).mono ?_); rintro e w9 ⟨rfl, rfl⟩)
  exact ⟨rfl, rfl, hF1'.out.al _⟩

theorem value_c' (b : Nat) (l : List UInt8) (w : World) (h : Rd w b l) (hl : l.length ≤ 140737488355327) :
    Calls Tryd.prog 48 #[.pointer (some ⟨b, 0, none⟩)] w (OutVr b (decV l) w) := by
  match l, h, hl with
  | [], h, hl => rw [decV]; exact value_nil b w h
  | c :: l, h, hl =>
    have hl2 : l.length ≤ 140737488355326 := by simp at hl; omega
    rw [decV]
    by_cases h0 : c.toNat = 0
    · have hc : c = 0 := UInt8.toNat_inj.1 h0
      subst hc
      rw [if_pos h0]
      exact value_null b l w h hl2
    · rw [if_neg h0]
      by_cases h3 : c.toNat ≤ 3
      · rw [if_pos h3]
        have h123 : c = 1 ∨ c = 2 ∨ c = 3 := by
          have : c.toNat = 1 ∨ c.toNat = 2 ∨ c.toNat = 3 := by omega
          rcases this with e | e | e
          · exact .inl (UInt8.toNat_inj.1 e)
          · exact .inr (.inl (UInt8.toNat_inj.1 e))
          · exact .inr (.inr (UInt8.toNat_inj.1 e))
        by_cases h8 : l.length < 8
        · rw [if_pos h8]
          rcases h123 with rfl | rfl | rfl
          · exact value_w1s b l w h h8
          · exact value_w2s b l w h h8
          · exact value_w3s b l w h h8
        · rw [if_neg h8]
          rcases h123 with rfl | rfl | rfl
          · have e : ofWord ((1 : UInt8).toNat : Int) (numB (l.take 8)) = ⟨1, (numB (l.take 8) : Int) - 9223372036854775808, 0, ⟨#[]⟩⟩ := rfl
            rw [e]
            cases hs : sV ⟨1, (numB (l.take 8) : Int) - 9223372036854775808, 0, ⟨#[]⟩⟩
            · exact value_w1f b l w h hl2 (by omega) hs
            · exact value_w1t b l w h hl2 (by omega) hs
          · have e : ofWord ((2 : UInt8).toNat : Int) (numB (l.take 8)) = ⟨2, (numB (l.take 8) : Int) - 9223372036854775808, 0, ⟨#[]⟩⟩ := rfl
            rw [e]
            cases hs : sV ⟨2, (numB (l.take 8) : Int) - 9223372036854775808, 0, ⟨#[]⟩⟩
            · exact value_w2f b l w h hl2 (by omega) hs
            · exact value_w2t b l w h hl2 (by omega) hs
          · have e : ofWord ((3 : UInt8).toNat : Int) (numB (l.take 8)) = ⟨3, 0, backI (numB (l.take 8)), ⟨#[]⟩⟩ := rfl
            rw [e]
            cases hs : sV ⟨3, 0, backI (numB (l.take 8)), ⟨#[]⟩⟩
            · exact value_w3f b l w h hl2 (by omega) hs
            · exact value_w3t b l w h hl2 (by omega) hs
      · rw [if_neg h3]
        by_cases h4 : c.toNat = 4
        · have hc : c = 4 := UInt8.toNat_inj.1 h4
          subst hc
          rw [if_pos h4]
          cases hd : decT [] l with
          | ok r => obtain ⟨t, rest⟩ := r; exact value_t b l t rest w h hl2 hd
          | error e => exact value_te b l e w h hl2 hd
        · rw [if_neg h4]
          exact value_odd b c l w h hl2 (by omega)

end Go.Proofs.YthpkjkcfhipjhaaDoor
