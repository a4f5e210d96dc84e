/- The reader's value: words of 8 bytes. -/
import Derived.Test.YthpkjkcfhipjhaaDoorR7
namespace Go.Proofs.YthpkjkcfhipjhaaDoor
set_option linter.unusedVariables false
set_option linter.unusedSimpArgs false
open Go.RowKit Go.Proofs.YthpkjkcfhipjhaaDoorW.PrintWords Go.Proofs.YthpkjkcfhipjhaaDoorW.PrintLast

set_option maxRecDepth 100000 in
set_option maxHeartbeats 2000000 in
theorem value_w1t (b : Nat) (l : List UInt8) (w : World) (h : Rd w b (1 :: l)) (hl : l.length ≤ 140737488355326) (h8 : 8 ≤ l.length) (hs : soundV 1 ((numB (l.take 8) : Int) - 9223372036854775808) 0 ⟨#[]⟩ = true) :
    Calls Tryd.prog 48 #[.pointer (some ⟨b, 0, none⟩)] w (OutVr b (.ok (⟨1, ((numB (l.take 8) : Int) - 9223372036854775808), 0, ⟨#[]⟩⟩, l.drop 8)) w) := by
  have hN : numB (l.take 8) < 18446744073709551616 := by
    have h1 := numB_lt (l.take 8)
    rw [List.length_take, Nat.min_eq_left h8] at h1
    have e8 : 256 ^ 8 = 18446744073709551616 := by decide
    omega
  have hlt := h.lt
  have HU := hidF (fun W (hR : Rd W b (1 :: l)) => take_ok b (1 :: l) 1 1 rfl W hR (by simp) (by simp; omega))
  simp only [List.take_succ_cons, List.take_zero, List.drop_succ_cons, List.drop_zero] at HU
  have hix := idx0 1
  have hnb : ¬ w.heap.size = b := by omega
  have HN := hidF (fun W (hR : Rd W b l) => number_ok b l W hR h8 (by omega))
  have hxn := xorN (numB (l.take 8)) hN
  have HS := hidF (fun W => sound_c 1 ((numB (l.take 8) : Int) - 9223372036854775808) 0 ⟨#[]⟩ W (by constructor <;> omega))
  rw [hs] at HS
  clear hs
  generalize numB (l.take 8) = N at *
  go_enter Tryd.func48, Tryd.ntmps48
  go_wp2_with fail
  (with_reducible refine (HU.out _ (h.below (by repeat (first | (with_reducible exact Below.refl _ _) | (with_reducible refine below_al ?_ _) | (with_reducible refine below_drewN ?_ _) | (with_reducible refine Below.drew ?_) | (with_reducible refine below_via (by assumption) ?_) | (with_reducible refine below_sc ?_ ?_ _; · (first | (simp; done) | (simp; omega) | omega)))))).mono ?_)
  rintro e w1 ⟨rfl, hR1, hF1⟩
  have HX := hidF (Bx.fr (Bx.new w 0 0 0 ⟨#[]⟩ 56) hF1 hnb)
  have hF1' := hidF (show Fr b w w1 from Fr.trans (w1 := w.alloc (.cells #[.int .i64 0, .int .i64 0, .int .u64 0, .string ⟨#[]⟩] 56)) (Fr.of (by repeat (first | (with_reducible exact Below.refl _ _) | (with_reducible refine below_al ?_ _) | (with_reducible refine below_drewN ?_ _) | (with_reducible refine Below.drew ?_) | (with_reducible refine below_via (by assumption) ?_) | (with_reducible refine below_sc ?_ ?_ _; · (first | (simp; done) | (simp; omega) | omega))))) hF1)
  have hs1 := hF1.size
  simp at hs1
  clear hF1
  have hnn : ¬ w1.heap.size = w.heap.size := by omega
  have hnn' : ¬ w.heap.size = w1.heap.size := by omega
  have hnb1 : ¬ w1.heap.size = b := by omega
  go_wp2_with (first | (go_at_call 71; (with_reducible refine (HN.out _ (hR1.below (by repeat (first | (with_reducible exact Below.refl _ _) | (with_reducible refine below_al ?_ _) | (with_reducible refine below_drewN ?_ _) | (with_reducible refine Below.drew ?_) | (with_reducible refine below_via (by assumption) ?_) | (with_reducible refine below_sc ?_ ?_ _; · (first | (simp; done) | (simp; omega) | omega)))))).mono ?_); rintro e w3 ⟨rfl, hR3, hF3⟩; have HX3 := hidF (Bx.fr (HX.out.al _) hF3 hnb); have HY3 := hidF (Bx.fr (Bx.new w1 1 0 0 ⟨#[]⟩ 56) hF3 hnb1); have hF3' := hidF (Fr.trans (hF1'.out.al _) hF3); have hs3 := hF3.size; simp at hs3; clear hF3; obtain ⟨d0, d1, d2, d3, e0, e1, e2, e3⟩ := HY3.out) | (go_at_call 60; (with_reducible refine (HS.out _).mono ?_); rintro e w2 ⟨rfl, hb2⟩; have hR2 := hidF (Rd.below (Rd.set hR3 hnb1 _ _) hb2); have hF2' := hidF (Fr.add (Fr.new hF3'.out (by omega) _ _) hb2); have hs2 := hb2.size; simp at hs2; obtain ⟨a0, a1, a2, a3, b0, b1, b2, b3⟩ := (Bx.other HX3.out hnn _ _).below hb2; clear d0 d1 d2 d3 e0 e1 e2 e3; obtain ⟨d0, d1, d2, d3, e0, e1, e2, e3⟩ := (Bx.setN HY3.out _).below hb2; clear hb2) | (go_at_call 47; (with_reducible refine (rmust_t _ _).mono ?_); rintro e w9 ⟨rfl, rfl⟩))
  refine bodyPost_ret (v := .agg #[.int .i64 (1), .int .i64 (((N : Int) - 9223372036854775808)), .int .u64 (0), .string (⟨#[]⟩)]) (by simp [results, Tryd.results48, go_sem, *]) rfl ⟨rfl, ?_, ?_⟩
  · repeat (refine Rd.set ?_ (by omega) _ _)
    exact hR2.out
  · repeat (refine Fr.new ?_ (by omega) _ _)
    exact hF2'.out

set_option maxRecDepth 100000 in
set_option maxHeartbeats 2000000 in
theorem value_w1f (b : Nat) (l : List UInt8) (w : World) (h : Rd w b (1 :: l)) (hl : l.length ≤ 140737488355326) (h8 : 8 ≤ l.length) (hs : soundV 1 ((numB (l.take 8) : Int) - 9223372036854775808) 0 ⟨#[]⟩ = false) :
    Calls Tryd.prog 48 #[.pointer (some ⟨b, 0, none⟩)] w (OutVr b (.error 4) w) := by
  have hN : numB (l.take 8) < 18446744073709551616 := by
    have h1 := numB_lt (l.take 8)
    rw [List.length_take, Nat.min_eq_left h8] at h1
    have e8 : 256 ^ 8 = 18446744073709551616 := by decide
    omega
  have hlt := h.lt
  have HU := hidF (fun W (hR : Rd W b (1 :: l)) => take_ok b (1 :: l) 1 1 rfl W hR (by simp) (by simp; omega))
  simp only [List.take_succ_cons, List.take_zero, List.drop_succ_cons, List.drop_zero] at HU
  have hix := idx0 1
  have hnb : ¬ w.heap.size = b := by omega
  have HN := hidF (fun W (hR : Rd W b l) => number_ok b l W hR h8 (by omega))
  have hxn := xorN (numB (l.take 8)) hN
  have HS := hidF (fun W => sound_c 1 ((numB (l.take 8) : Int) - 9223372036854775808) 0 ⟨#[]⟩ W (by constructor <;> omega))
  rw [hs] at HS
  clear hs
  generalize numB (l.take 8) = N at *
  go_enter Tryd.func48, Tryd.ntmps48
  go_wp2_with fail
  (with_reducible refine (HU.out _ (h.below (by repeat (first | (with_reducible exact Below.refl _ _) | (with_reducible refine below_al ?_ _) | (with_reducible refine below_drewN ?_ _) | (with_reducible refine Below.drew ?_) | (with_reducible refine below_via (by assumption) ?_) | (with_reducible refine below_sc ?_ ?_ _; · (first | (simp; done) | (simp; omega) | omega)))))).mono ?_)
  rintro e w1 ⟨rfl, hR1, hF1⟩
  have HX := hidF (Bx.fr (Bx.new w 0 0 0 ⟨#[]⟩ 56) hF1 hnb)
  have hF1' := hidF (show Fr b w w1 from Fr.trans (w1 := w.alloc (.cells #[.int .i64 0, .int .i64 0, .int .u64 0, .string ⟨#[]⟩] 56)) (Fr.of (by repeat (first | (with_reducible exact Below.refl _ _) | (with_reducible refine below_al ?_ _) | (with_reducible refine below_drewN ?_ _) | (with_reducible refine Below.drew ?_) | (with_reducible refine below_via (by assumption) ?_) | (with_reducible refine below_sc ?_ ?_ _; · (first | (simp; done) | (simp; omega) | omega))))) hF1)
  have hs1 := hF1.size
  simp at hs1
  clear hF1
  have hnn : ¬ w1.heap.size = w.heap.size := by omega
  have hnn' : ¬ w.heap.size = w1.heap.size := by omega
  have hnb1 : ¬ w1.heap.size = b := by omega
  go_wp2_with (first | (go_at_call 71; (with_reducible refine (HN.out _ (hR1.below (by repeat (first | (with_reducible exact Below.refl _ _) | (with_reducible refine below_al ?_ _) | (with_reducible refine below_drewN ?_ _) | (with_reducible refine Below.drew ?_) | (with_reducible refine below_via (by assumption) ?_) | (with_reducible refine below_sc ?_ ?_ _; · (first | (simp; done) | (simp; omega) | omega)))))).mono ?_); rintro e w3 ⟨rfl, hR3, hF3⟩; have HX3 := hidF (Bx.fr (HX.out.al _) hF3 hnb); have HY3 := hidF (Bx.fr (Bx.new w1 1 0 0 ⟨#[]⟩ 56) hF3 hnb1); have hF3' := hidF (Fr.trans (hF1'.out.al _) hF3); have hs3 := hF3.size; simp at hs3; clear hF3; obtain ⟨d0, d1, d2, d3, e0, e1, e2, e3⟩ := HY3.out) | (go_at_call 60; (with_reducible refine (HS.out _).mono ?_); rintro e w2 ⟨rfl, hb2⟩; have hR2 := hidF (Rd.below (Rd.set hR3 hnb1 _ _) hb2); have hF2' := hidF (Fr.add (Fr.new hF3'.out (by omega) _ _) hb2); have hs2 := hb2.size; simp at hs2; obtain ⟨a0, a1, a2, a3, b0, b1, b2, b3⟩ := (Bx.other HX3.out hnn _ _).below hb2; clear d0 d1 d2 d3 e0 e1 e2 e3; obtain ⟨d0, d1, d2, d3, e0, e1, e2, e3⟩ := (Bx.setN HY3.out _).below hb2; clear hb2) | (go_at_call 47; (with_reducible refine (rmust_f _ _).mono ?_); rintro e w9 ⟨rfl, rfl⟩))
  exact ⟨rfl, rfl, hF2'.out⟩

set_option maxRecDepth 100000 in
set_option maxHeartbeats 2000000 in
theorem value_w1s (b : Nat) (l : List UInt8) (w : World) (h : Rd w b (1 :: l)) (h8 : l.length < 8) :
    Calls Tryd.prog 48 #[.pointer (some ⟨b, 0, none⟩)] w (OutVr b (.error 3) w) := by
  have hlt := h.lt
  have HU := hidF (fun W (hR : Rd W b (1 :: l)) => take_ok b (1 :: l) 1 1 rfl W hR (by simp) (by simp; omega))
  simp only [List.take_succ_cons, List.take_zero, List.drop_succ_cons, List.drop_zero] at HU
  have hix := idx0 1
  have hnb : ¬ w.heap.size = b := by omega
  have HN := hidF (fun W (hR : Rd W b l) => number_short b l W hR h8)
  go_enter Tryd.func48, Tryd.ntmps48
  go_wp2_with fail
  (with_reducible refine (HU.out _ (h.below (by repeat (first | (with_reducible exact Below.refl _ _) | (with_reducible refine below_al ?_ _) | (with_reducible refine below_drewN ?_ _) | (with_reducible refine Below.drew ?_) | (with_reducible refine below_via (by assumption) ?_) | (with_reducible refine below_sc ?_ ?_ _; · (first | (simp; done) | (simp; omega) | omega)))))).mono ?_)
  rintro e w1 ⟨rfl, hR1, hF1⟩
  have HX := hidF (Bx.fr (Bx.new w 0 0 0 ⟨#[]⟩ 56) hF1 hnb)
  have hF1' := hidF (show Fr b w w1 from Fr.trans (w1 := w.alloc (.cells #[.int .i64 0, .int .i64 0, .int .u64 0, .string ⟨#[]⟩] 56)) (Fr.of (by repeat (first | (with_reducible exact Below.refl _ _) | (with_reducible refine below_al ?_ _) | (with_reducible refine below_drewN ?_ _) | (with_reducible refine Below.drew ?_) | (with_reducible refine below_via (by assumption) ?_) | (with_reducible refine below_sc ?_ ?_ _; · (first | (simp; done) | (simp; omega) | omega))))) hF1)
  have hs1 := hF1.size
  simp at hs1
  clear hF1
  have hnn : ¬ w1.heap.size = w.heap.size := by omega
  have hnn' : ¬ w.heap.size = w1.heap.size := by omega
  have hnb1 : ¬ w1.heap.size = b := by omega
  go_wp2_with (go_at_call 71; (with_reducible refine (HN.out _ (hR1.below (by repeat (first | (with_reducible exact Below.refl _ _) | (with_reducible refine below_al ?_ _) | (with_reducible refine below_drewN ?_ _) | (with_reducible refine Below.drew ?_) | (with_reducible refine below_via (by assumption) ?_) | (with_reducible refine below_sc ?_ ?_ _; · (first | (simp; done) | (simp; omega) | omega)))))).mono ?_); rintro e w3 ⟨rfl, rfl⟩)
  exact ⟨rfl, rfl, hF1'.out.al _⟩

set_option maxRecDepth 100000 in
set_option maxHeartbeats 2000000 in
theorem value_w2t (b : Nat) (l : List UInt8) (w : World) (h : Rd w b (2 :: l)) (hl : l.length ≤ 140737488355326) (h8 : 8 ≤ l.length) (hs : soundV 2 ((numB (l.take 8) : Int) - 9223372036854775808) 0 ⟨#[]⟩ = true) :
    Calls Tryd.prog 48 #[.pointer (some ⟨b, 0, none⟩)] w (OutVr b (.ok (⟨2, ((numB (l.take 8) : Int) - 9223372036854775808), 0, ⟨#[]⟩⟩, l.drop 8)) w) := by
  have hN : numB (l.take 8) < 18446744073709551616 := by
    have h1 := numB_lt (l.take 8)
    rw [List.length_take, Nat.min_eq_left h8] at h1
    have e8 : 256 ^ 8 = 18446744073709551616 := by decide
    omega
  have hlt := h.lt
  have HU := hidF (fun W (hR : Rd W b (2 :: l)) => take_ok b (2 :: l) 1 1 rfl W hR (by simp) (by simp; omega))
  simp only [List.take_succ_cons, List.take_zero, List.drop_succ_cons, List.drop_zero] at HU
  have hix := idx0 2
  have hnb : ¬ w.heap.size = b := by omega
  have HN := hidF (fun W (hR : Rd W b l) => number_ok b l W hR h8 (by omega))
  have hxn := xorN (numB (l.take 8)) hN
  have HS := hidF (fun W => sound_c 2 ((numB (l.take 8) : Int) - 9223372036854775808) 0 ⟨#[]⟩ W (by constructor <;> omega))
  rw [hs] at HS
  clear hs
  generalize numB (l.take 8) = N at *
  go_enter Tryd.func48, Tryd.ntmps48
  go_wp2_with fail
  (with_reducible refine (HU.out _ (h.below (by repeat (first | (with_reducible exact Below.refl _ _) | (with_reducible refine below_al ?_ _) | (with_reducible refine below_drewN ?_ _) | (with_reducible refine Below.drew ?_) | (with_reducible refine below_via (by assumption) ?_) | (with_reducible refine below_sc ?_ ?_ _; · (first | (simp; done) | (simp; omega) | omega)))))).mono ?_)
  rintro e w1 ⟨rfl, hR1, hF1⟩
  have HX := hidF (Bx.fr (Bx.new w 0 0 0 ⟨#[]⟩ 56) hF1 hnb)
  have hF1' := hidF (show Fr b w w1 from Fr.trans (w1 := w.alloc (.cells #[.int .i64 0, .int .i64 0, .int .u64 0, .string ⟨#[]⟩] 56)) (Fr.of (by repeat (first | (with_reducible exact Below.refl _ _) | (with_reducible refine below_al ?_ _) | (with_reducible refine below_drewN ?_ _) | (with_reducible refine Below.drew ?_) | (with_reducible refine below_via (by assumption) ?_) | (with_reducible refine below_sc ?_ ?_ _; · (first | (simp; done) | (simp; omega) | omega))))) hF1)
  have hs1 := hF1.size
  simp at hs1
  clear hF1
  have hnn : ¬ w1.heap.size = w.heap.size := by omega
  have hnn' : ¬ w.heap.size = w1.heap.size := by omega
  have hnb1 : ¬ w1.heap.size = b := by omega
  go_wp2_with (first | (go_at_call 71; (with_reducible refine (HN.out _ (hR1.below (by repeat (first | (with_reducible exact Below.refl _ _) | (with_reducible refine below_al ?_ _) | (with_reducible refine below_drewN ?_ _) | (with_reducible refine Below.drew ?_) | (with_reducible refine below_via (by assumption) ?_) | (with_reducible refine below_sc ?_ ?_ _; · (first | (simp; done) | (simp; omega) | omega)))))).mono ?_); rintro e w3 ⟨rfl, hR3, hF3⟩; have HX3 := hidF (Bx.fr (HX.out.al _) hF3 hnb); have HY3 := hidF (Bx.fr (Bx.new w1 2 0 0 ⟨#[]⟩ 56) hF3 hnb1); have hF3' := hidF (Fr.trans (hF1'.out.al _) hF3); have hs3 := hF3.size; simp at hs3; clear hF3; obtain ⟨d0, d1, d2, d3, e0, e1, e2, e3⟩ := HY3.out) | (go_at_call 60; (with_reducible refine (HS.out _).mono ?_); rintro e w2 ⟨rfl, hb2⟩; have hR2 := hidF (Rd.below (Rd.set hR3 hnb1 _ _) hb2); have hF2' := hidF (Fr.add (Fr.new hF3'.out (by omega) _ _) hb2); have hs2 := hb2.size; simp at hs2; obtain ⟨a0, a1, a2, a3, b0, b1, b2, b3⟩ := (Bx.other HX3.out hnn _ _).below hb2; clear d0 d1 d2 d3 e0 e1 e2 e3; obtain ⟨d0, d1, d2, d3, e0, e1, e2, e3⟩ := (Bx.setN HY3.out _).below hb2; clear hb2) | (go_at_call 47; (with_reducible refine (rmust_t _ _).mono ?_); rintro e w9 ⟨rfl, rfl⟩))
  refine bodyPost_ret (v := .agg #[.int .i64 (2), .int .i64 (((N : Int) - 9223372036854775808)), .int .u64 (0), .string (⟨#[]⟩)]) (by simp [results, Tryd.results48, go_sem, *]) rfl ⟨rfl, ?_, ?_⟩
  · repeat (refine Rd.set ?_ (by omega) _ _)
    exact hR2.out
  · repeat (refine Fr.new ?_ (by omega) _ _)
    exact hF2'.out

set_option maxRecDepth 100000 in
set_option maxHeartbeats 2000000 in
theorem value_w2f (b : Nat) (l : List UInt8) (w : World) (h : Rd w b (2 :: l)) (hl : l.length ≤ 140737488355326) (h8 : 8 ≤ l.length) (hs : soundV 2 ((numB (l.take 8) : Int) - 9223372036854775808) 0 ⟨#[]⟩ = false) :
    Calls Tryd.prog 48 #[.pointer (some ⟨b, 0, none⟩)] w (OutVr b (.error 4) w) := by
  have hN : numB (l.take 8) < 18446744073709551616 := by
    have h1 := numB_lt (l.take 8)
    rw [List.length_take, Nat.min_eq_left h8] at h1
    have e8 : 256 ^ 8 = 18446744073709551616 := by decide
    omega
  have hlt := h.lt
  have HU := hidF (fun W (hR : Rd W b (2 :: l)) => take_ok b (2 :: l) 1 1 rfl W hR (by simp) (by simp; omega))
  simp only [List.take_succ_cons, List.take_zero, List.drop_succ_cons, List.drop_zero] at HU
  have hix := idx0 2
  have hnb : ¬ w.heap.size = b := by omega
  have HN := hidF (fun W (hR : Rd W b l) => number_ok b l W hR h8 (by omega))
  have hxn := xorN (numB (l.take 8)) hN
  have HS := hidF (fun W => sound_c 2 ((numB (l.take 8) : Int) - 9223372036854775808) 0 ⟨#[]⟩ W (by constructor <;> omega))
  rw [hs] at HS
  clear hs
  generalize numB (l.take 8) = N at *
  go_enter Tryd.func48, Tryd.ntmps48
  go_wp2_with fail
  (with_reducible refine (HU.out _ (h.below (by repeat (first | (with_reducible exact Below.refl _ _) | (with_reducible refine below_al ?_ _) | (with_reducible refine below_drewN ?_ _) | (with_reducible refine Below.drew ?_) | (with_reducible refine below_via (by assumption) ?_) | (with_reducible refine below_sc ?_ ?_ _; · (first | (simp; done) | (simp; omega) | omega)))))).mono ?_)
  rintro e w1 ⟨rfl, hR1, hF1⟩
  have HX := hidF (Bx.fr (Bx.new w 0 0 0 ⟨#[]⟩ 56) hF1 hnb)
  have hF1' := hidF (show Fr b w w1 from Fr.trans (w1 := w.alloc (.cells #[.int .i64 0, .int .i64 0, .int .u64 0, .string ⟨#[]⟩] 56)) (Fr.of (by repeat (first | (with_reducible exact Below.refl _ _) | (with_reducible refine below_al ?_ _) | (with_reducible refine below_drewN ?_ _) | (with_reducible refine Below.drew ?_) | (with_reducible refine below_via (by assumption) ?_) | (with_reducible refine below_sc ?_ ?_ _; · (first | (simp; done) | (simp; omega) | omega))))) hF1)
  have hs1 := hF1.size
  simp at hs1
  clear hF1
  have hnn : ¬ w1.heap.size = w.heap.size := by omega
  have hnn' : ¬ w.heap.size = w1.heap.size := by omega
  have hnb1 : ¬ w1.heap.size = b := by omega
  go_wp2_with (first | (go_at_call 71; (with_reducible refine (HN.out _ (hR1.below (by repeat (first | (with_reducible exact Below.refl _ _) | (with_reducible refine below_al ?_ _) | (with_reducible refine below_drewN ?_ _) | (with_reducible refine Below.drew ?_) | (with_reducible refine below_via (by assumption) ?_) | (with_reducible refine below_sc ?_ ?_ _; · (first | (simp; done) | (simp; omega) | omega)))))).mono ?_); rintro e w3 ⟨rfl, hR3, hF3⟩; have HX3 := hidF (Bx.fr (HX.out.al _) hF3 hnb); have HY3 := hidF (Bx.fr (Bx.new w1 2 0 0 ⟨#[]⟩ 56) hF3 hnb1); have hF3' := hidF (Fr.trans (hF1'.out.al _) hF3); have hs3 := hF3.size; simp at hs3; clear hF3; obtain ⟨d0, d1, d2, d3, e0, e1, e2, e3⟩ := HY3.out) | (go_at_call 60; (with_reducible refine (HS.out _).mono ?_); rintro e w2 ⟨rfl, hb2⟩; have hR2 := hidF (Rd.below (Rd.set hR3 hnb1 _ _) hb2); have hF2' := hidF (Fr.add (Fr.new hF3'.out (by omega) _ _) hb2); have hs2 := hb2.size; simp at hs2; obtain ⟨a0, a1, a2, a3, b0, b1, b2, b3⟩ := (Bx.other HX3.out hnn _ _).below hb2; clear d0 d1 d2 d3 e0 e1 e2 e3; obtain ⟨d0, d1, d2, d3, e0, e1, e2, e3⟩ := (Bx.setN HY3.out _).below hb2; clear hb2) | (go_at_call 47; (with_reducible refine (rmust_f _ _).mono ?_); rintro e w9 ⟨rfl, rfl⟩))
  exact ⟨rfl, rfl, hF2'.out⟩

set_option maxRecDepth 100000 in
set_option maxHeartbeats 2000000 in
theorem value_w2s (b : Nat) (l : List UInt8) (w : World) (h : Rd w b (2 :: l)) (h8 : l.length < 8) :
    Calls Tryd.prog 48 #[.pointer (some ⟨b, 0, none⟩)] w (OutVr b (.error 3) w) := by
  have hlt := h.lt
  have HU := hidF (fun W (hR : Rd W b (2 :: l)) => take_ok b (2 :: l) 1 1 rfl W hR (by simp) (by simp; omega))
  simp only [List.take_succ_cons, List.take_zero, List.drop_succ_cons, List.drop_zero] at HU
  have hix := idx0 2
  have hnb : ¬ w.heap.size = b := by omega
  have HN := hidF (fun W (hR : Rd W b l) => number_short b l W hR h8)
  go_enter Tryd.func48, Tryd.ntmps48
  go_wp2_with fail
  (with_reducible refine (HU.out _ (h.below (by repeat (first | (with_reducible exact Below.refl _ _) | (with_reducible refine below_al ?_ _) | (with_reducible refine below_drewN ?_ _) | (with_reducible refine Below.drew ?_) | (with_reducible refine below_via (by assumption) ?_) | (with_reducible refine below_sc ?_ ?_ _; · (first | (simp; done) | (simp; omega) | omega)))))).mono ?_)
  rintro e w1 ⟨rfl, hR1, hF1⟩
  have HX := hidF (Bx.fr (Bx.new w 0 0 0 ⟨#[]⟩ 56) hF1 hnb)
  have hF1' := hidF (show Fr b w w1 from Fr.trans (w1 := w.alloc (.cells #[.int .i64 0, .int .i64 0, .int .u64 0, .string ⟨#[]⟩] 56)) (Fr.of (by repeat (first | (with_reducible exact Below.refl _ _) | (with_reducible refine below_al ?_ _) | (with_reducible refine below_drewN ?_ _) | (with_reducible refine Below.drew ?_) | (with_reducible refine below_via (by assumption) ?_) | (with_reducible refine below_sc ?_ ?_ _; · (first | (simp; done) | (simp; omega) | omega))))) hF1)
  have hs1 := hF1.size
  simp at hs1
  clear hF1
  have hnn : ¬ w1.heap.size = w.heap.size := by omega
  have hnn' : ¬ w.heap.size = w1.heap.size := by omega
  have hnb1 : ¬ w1.heap.size = b := by omega
  go_wp2_with (go_at_call 71; (with_reducible refine (HN.out _ (hR1.below (by repeat (first | (with_reducible exact Below.refl _ _) | (with_reducible refine below_al ?_ _) | (with_reducible refine below_drewN ?_ _) | (with_reducible refine Below.drew ?_) | (with_reducible refine below_via (by assumption) ?_) | (with_reducible refine below_sc ?_ ?_ _; · (first | (simp; done) | (simp; omega) | omega)))))).mono ?_); rintro e w3 ⟨rfl, rfl⟩)
  exact ⟨rfl, rfl, hF1'.out.al _⟩

set_option maxRecDepth 100000 in
set_option maxHeartbeats 2000000 in
theorem value_w3t (b : Nat) (l : List UInt8) (w : World) (h : Rd w b (3 :: l)) (hl : l.length ≤ 140737488355326) (h8 : 8 ≤ l.length) (hs : soundV 3 0 (backI (numB (l.take 8))) ⟨#[]⟩ = true) :
    Calls Tryd.prog 48 #[.pointer (some ⟨b, 0, none⟩)] w (OutVr b (.ok (⟨3, 0, (backI (numB (l.take 8))), ⟨#[]⟩⟩, l.drop 8)) w) := by
  have hN : numB (l.take 8) < 18446744073709551616 := by
    have h1 := numB_lt (l.take 8)
    rw [List.length_take, Nat.min_eq_left h8] at h1
    have e8 : 256 ^ 8 = 18446744073709551616 := by decide
    omega
  have hlt := h.lt
  have HU := hidF (fun W (hR : Rd W b (3 :: l)) => take_ok b (3 :: l) 1 1 rfl W hR (by simp) (by simp; omega))
  simp only [List.take_succ_cons, List.take_zero, List.drop_succ_cons, List.drop_zero] at HU
  have hix := idx0 3
  have hnb : ¬ w.heap.size = b := by omega
  have HN := hidF (fun W (hR : Rd W b l) => number_ok b l W hR h8 (by omega))
  have HBk := hidF (fun W => back_c (numB (l.take 8) : Int) ⟨by omega, by omega⟩ W)
  have HS := hidF (fun W => sound_c 3 0 (backI (numB (l.take 8))) ⟨#[]⟩ W (by constructor <;> omega))
  rw [hs] at HS
  clear hs
  generalize numB (l.take 8) = N at *
  generalize backI (N : Int) = F at *
  go_enter Tryd.func48, Tryd.ntmps48
  go_wp2_with fail
  (with_reducible refine (HU.out _ (h.below (by repeat (first | (with_reducible exact Below.refl _ _) | (with_reducible refine below_al ?_ _) | (with_reducible refine below_drewN ?_ _) | (with_reducible refine Below.drew ?_) | (with_reducible refine below_via (by assumption) ?_) | (with_reducible refine below_sc ?_ ?_ _; · (first | (simp; done) | (simp; omega) | omega)))))).mono ?_)
  rintro e w1 ⟨rfl, hR1, hF1⟩
  have HX := hidF (Bx.fr (Bx.new w 0 0 0 ⟨#[]⟩ 56) hF1 hnb)
  have hF1' := hidF (show Fr b w w1 from Fr.trans (w1 := w.alloc (.cells #[.int .i64 0, .int .i64 0, .int .u64 0, .string ⟨#[]⟩] 56)) (Fr.of (by repeat (first | (with_reducible exact Below.refl _ _) | (with_reducible refine below_al ?_ _) | (with_reducible refine below_drewN ?_ _) | (with_reducible refine Below.drew ?_) | (with_reducible refine below_via (by assumption) ?_) | (with_reducible refine below_sc ?_ ?_ _; · (first | (simp; done) | (simp; omega) | omega))))) hF1)
  have hs1 := hF1.size
  simp at hs1
  clear hF1
  have hnn : ¬ w1.heap.size = w.heap.size := by omega
  have hnn' : ¬ w.heap.size = w1.heap.size := by omega
  have hnb1 : ¬ w1.heap.size = b := by omega
  go_wp2_with (first | (go_at_call 71; (with_reducible refine (HN.out _ (hR1.below (by repeat (first | (with_reducible exact Below.refl _ _) | (with_reducible refine below_al ?_ _) | (with_reducible refine below_drewN ?_ _) | (with_reducible refine Below.drew ?_) | (with_reducible refine below_via (by assumption) ?_) | (with_reducible refine below_sc ?_ ?_ _; · (first | (simp; done) | (simp; omega) | omega)))))).mono ?_); rintro e w3 ⟨rfl, hR3, hF3⟩; have HX3 := hidF (Bx.fr (HX.out.al _) hF3 hnb); have HY3 := hidF (Bx.fr (Bx.new w1 3 0 0 ⟨#[]⟩ 56) hF3 hnb1); have hF3' := hidF (Fr.trans (hF1'.out.al _) hF3); have hs3 := hF3.size; simp at hs3; clear hF3; obtain ⟨d0, d1, d2, d3, e0, e1, e2, e3⟩ := HY3.out) | (go_at_call 72; (with_reducible refine (HBk.out _).mono ?_); rintro e w4 ⟨rfl, hb4⟩; have hR4 := hidF (Rd.below hR3 hb4); have HX4 := hidF (HX3.out.below hb4); have hF4' := hidF (Fr.add hF3'.out hb4); have hs4 := hb4.size; have HY4 := hidF (HY3.out.below hb4); clear d0 d1 d2 d3 e0 e1 e2 e3; obtain ⟨d0, d1, d2, d3, e0, e1, e2, e3⟩ := HY4.out; clear hb4) | (go_at_call 60; (with_reducible refine (HS.out _).mono ?_); rintro e w2 ⟨rfl, hb2⟩; have hR2 := hidF (Rd.below (Rd.set hR4.out hnb1 _ _) hb2); have hF2' := hidF (Fr.add (Fr.new hF4'.out (by omega) _ _) hb2); have hs2 := hb2.size; simp at hs2; obtain ⟨a0, a1, a2, a3, b0, b1, b2, b3⟩ := (Bx.other HX4.out hnn _ _).below hb2; clear d0 d1 d2 d3 e0 e1 e2 e3; obtain ⟨d0, d1, d2, d3, e0, e1, e2, e3⟩ := (Bx.setF HY4.out _).below hb2; clear hb2) | (go_at_call 47; (with_reducible refine (rmust_t _ _).mono ?_); rintro e w9 ⟨rfl, rfl⟩))
  refine bodyPost_ret (v := .agg #[.int .i64 (3), .int .i64 (0), .int .u64 (F), .string (⟨#[]⟩)]) (by simp [results, Tryd.results48, go_sem, *]) rfl ⟨rfl, ?_, ?_⟩
  · repeat (refine Rd.set ?_ (by omega) _ _)
    exact hR2.out
  · repeat (refine Fr.new ?_ (by omega) _ _)
    exact hF2'.out

set_option maxRecDepth 100000 in
set_option maxHeartbeats 2000000 in
theorem value_w3f (b : Nat) (l : List UInt8) (w : World) (h : Rd w b (3 :: l)) (hl : l.length ≤ 140737488355326) (h8 : 8 ≤ l.length) (hs : soundV 3 0 (backI (numB (l.take 8))) ⟨#[]⟩ = false) :
    Calls Tryd.prog 48 #[.pointer (some ⟨b, 0, none⟩)] w (OutVr b (.error 4) w) := by
  have hN : numB (l.take 8) < 18446744073709551616 := by
    have h1 := numB_lt (l.take 8)
    rw [List.length_take, Nat.min_eq_left h8] at h1
    have e8 : 256 ^ 8 = 18446744073709551616 := by decide
    omega
  have hlt := h.lt
  have HU := hidF (fun W (hR : Rd W b (3 :: l)) => take_ok b (3 :: l) 1 1 rfl W hR (by simp) (by simp; omega))
  simp only [List.take_succ_cons, List.take_zero, List.drop_succ_cons, List.drop_zero] at HU
  have hix := idx0 3
  have hnb : ¬ w.heap.size = b := by omega
  have HN := hidF (fun W (hR : Rd W b l) => number_ok b l W hR h8 (by omega))
  have HBk := hidF (fun W => back_c (numB (l.take 8) : Int) ⟨by omega, by omega⟩ W)
  have HS := hidF (fun W => sound_c 3 0 (backI (numB (l.take 8))) ⟨#[]⟩ W (by constructor <;> omega))
  rw [hs] at HS
  clear hs
  generalize numB (l.take 8) = N at *
  generalize backI (N : Int) = F at *
  go_enter Tryd.func48, Tryd.ntmps48
  go_wp2_with fail
  (with_reducible refine (HU.out _ (h.below (by repeat (first | (with_reducible exact Below.refl _ _) | (with_reducible refine below_al ?_ _) | (with_reducible refine below_drewN ?_ _) | (with_reducible refine Below.drew ?_) | (with_reducible refine below_via (by assumption) ?_) | (with_reducible refine below_sc ?_ ?_ _; · (first | (simp; done) | (simp; omega) | omega)))))).mono ?_)
  rintro e w1 ⟨rfl, hR1, hF1⟩
  have HX := hidF (Bx.fr (Bx.new w 0 0 0 ⟨#[]⟩ 56) hF1 hnb)
  have hF1' := hidF (show Fr b w w1 from Fr.trans (w1 := w.alloc (.cells #[.int .i64 0, .int .i64 0, .int .u64 0, .string ⟨#[]⟩] 56)) (Fr.of (by repeat (first | (with_reducible exact Below.refl _ _) | (with_reducible refine below_al ?_ _) | (with_reducible refine below_drewN ?_ _) | (with_reducible refine Below.drew ?_) | (with_reducible refine below_via (by assumption) ?_) | (with_reducible refine below_sc ?_ ?_ _; · (first | (simp; done) | (simp; omega) | omega))))) hF1)
  have hs1 := hF1.size
  simp at hs1
  clear hF1
  have hnn : ¬ w1.heap.size = w.heap.size := by omega
  have hnn' : ¬ w.heap.size = w1.heap.size := by omega
  have hnb1 : ¬ w1.heap.size = b := by omega
  go_wp2_with (first | (go_at_call 71; (with_reducible refine (HN.out _ (hR1.below (by repeat (first | (with_reducible exact Below.refl _ _) | (with_reducible refine below_al ?_ _) | (with_reducible refine below_drewN ?_ _) | (with_reducible refine Below.drew ?_) | (with_reducible refine below_via (by assumption) ?_) | (with_reducible refine below_sc ?_ ?_ _; · (first | (simp; done) | (simp; omega) | omega)))))).mono ?_); rintro e w3 ⟨rfl, hR3, hF3⟩; have HX3 := hidF (Bx.fr (HX.out.al _) hF3 hnb); have HY3 := hidF (Bx.fr (Bx.new w1 3 0 0 ⟨#[]⟩ 56) hF3 hnb1); have hF3' := hidF (Fr.trans (hF1'.out.al _) hF3); have hs3 := hF3.size; simp at hs3; clear hF3; obtain ⟨d0, d1, d2, d3, e0, e1, e2, e3⟩ := HY3.out) | (go_at_call 72; (with_reducible refine (HBk.out _).mono ?_); rintro e w4 ⟨rfl, hb4⟩; have hR4 := hidF (Rd.below hR3 hb4); have HX4 := hidF (HX3.out.below hb4); have hF4' := hidF (Fr.add hF3'.out hb4); have hs4 := hb4.size; have HY4 := hidF (HY3.out.below hb4); clear d0 d1 d2 d3 e0 e1 e2 e3; obtain ⟨d0, d1, d2, d3, e0, e1, e2, e3⟩ := HY4.out; clear hb4) | (go_at_call 60; (with_reducible refine (HS.out _).mono ?_); rintro e w2 ⟨rfl, hb2⟩; have hR2 := hidF (Rd.below (Rd.set hR4.out hnb1 _ _) hb2); have hF2' := hidF (Fr.add (Fr.new hF4'.out (by omega) _ _) hb2); have hs2 := hb2.size; simp at hs2; obtain ⟨a0, a1, a2, a3, b0, b1, b2, b3⟩ := (Bx.other HX4.out hnn _ _).below hb2; clear d0 d1 d2 d3 e0 e1 e2 e3; obtain ⟨d0, d1, d2, d3, e0, e1, e2, e3⟩ := (Bx.setF HY4.out _).below hb2; clear hb2) | (go_at_call 47; (with_reducible refine (rmust_f _ _).mono ?_); rintro e w9 ⟨rfl, rfl⟩))
  exact ⟨rfl, rfl, hF2'.out⟩

set_option maxRecDepth 100000 in
set_option maxHeartbeats 2000000 in
theorem value_w3s (b : Nat) (l : List UInt8) (w : World) (h : Rd w b (3 :: l)) (h8 : l.length < 8) :
    Calls Tryd.prog 48 #[.pointer (some ⟨b, 0, none⟩)] w (OutVr b (.error 3) w) := by
  have hlt := h.lt
  have HU := hidF (fun W (hR : Rd W b (3 :: l)) => take_ok b (3 :: l) 1 1 rfl W hR (by simp) (by simp; omega))
  simp only [List.take_succ_cons, List.take_zero, List.drop_succ_cons, List.drop_zero] at HU
  have hix := idx0 3
  have hnb : ¬ w.heap.size = b := by omega
  have HN := hidF (fun W (hR : Rd W b l) => number_short b l W hR h8)
  go_enter Tryd.func48, Tryd.ntmps48
  go_wp2_with fail
  (with_reducible refine (HU.out _ (h.below (by repeat (first | (with_reducible exact Below.refl _ _) | (with_reducible refine below_al ?_ _) | (with_reducible refine below_drewN ?_ _) | (with_reducible refine Below.drew ?_) | (with_reducible refine below_via (by assumption) ?_) | (with_reducible refine below_sc ?_ ?_ _; · (first | (simp; done) | (simp; omega) | omega)))))).mono ?_)
  rintro e w1 ⟨rfl, hR1, hF1⟩
  have HX := hidF (Bx.fr (Bx.new w 0 0 0 ⟨#[]⟩ 56) hF1 hnb)
  have hF1' := hidF (show Fr b w w1 from Fr.trans (w1 := w.alloc (.cells #[.int .i64 0, .int .i64 0, .int .u64 0, .string ⟨#[]⟩] 56)) (Fr.of (by repeat (first | (with_reducible exact Below.refl _ _) | (with_reducible refine below_al ?_ _) | (with_reducible refine below_drewN ?_ _) | (with_reducible refine Below.drew ?_) | (with_reducible refine below_via (by assumption) ?_) | (with_reducible refine below_sc ?_ ?_ _; · (first | (simp; done) | (simp; omega) | omega))))) hF1)
  have hs1 := hF1.size
  simp at hs1
  clear hF1
  have hnn : ¬ w1.heap.size = w.heap.size := by omega
  have hnn' : ¬ w.heap.size = w1.heap.size := by omega
  have hnb1 : ¬ w1.heap.size = b := by omega
  go_wp2_with (go_at_call 71; (with_reducible refine (HN.out _ (hR1.below (by repeat (first | (with_reducible exact Below.refl _ _) | (with_reducible refine below_al ?_ _) | (with_reducible refine below_drewN ?_ _) | (with_reducible refine Below.drew ?_) | (with_reducible refine below_via (by assumption) ?_) | (with_reducible refine below_sc ?_ ?_ _; · (first | (simp; done) | (simp; omega) | omega)))))).mono ?_); rintro e w3 ⟨rfl, rfl⟩)
  exact ⟨rfl, rfl, hF1'.out.al _⟩

end Go.Proofs.YthpkjkcfhipjhaaDoor
