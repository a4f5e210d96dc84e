/- a part of the claim: what the card leans on, out of the texts LA, LM2 (put together by wip/tools/shake.py). -/
import Derived.Test.YtlaafpbhhnehgaaDoorSB6
import Derived.Test.YtlaafpbhhnehgaaDoorSB7
section
namespace Go.Proofs.YtlaafpbhhnehgaaDoor
set_option linter.unusedVariables false
set_option linter.unusedSimpArgs false
open Go.RowKit Go.Proofs.YtlaafpbhhnehgaaDoorW.PrintWords Go.Proofs.YtlaafpbhhnehgaaDoorW.PrintLast PLX
set_option maxRecDepth 1000000 in
theorem awake_k : freshetlaw13_awake.f 30 = some true := by kernel_rfl
theorem awake_ev : Ev (fun k => freshetlaw13_awake.f k) true := Ev.of (fun k => freshetlaw13_awake.mono k) awake_k
end Go.Proofs.YtlaafpbhhnehgaaDoor
end
section
namespace Go.Proofs.YtlaafpbhhnehgaaDoor
set_option linter.unusedVariables false
set_option linter.unusedSimpArgs false
open Go.RowKit Go.Proofs.YtlaafpbhhnehgaaDoorW.PrintWords Go.Proofs.YtlaafpbhhnehgaaDoorW.PrintLast PLX
theorem awakeL_c (w : World) (ht : Tab w) : Calls Tryd.prog 9 #[] w fun e w' => e = .returned (.bool true) ∧ Below w.heap.size w w' := by
  obtain ⟨k, hk⟩ := awake_ev.rounds
  exact freshetlaw13_awake.calls k true w ht hk
theorem scan_at : ∀ (d sz : Nat) (l : List UInt8) (a : List S34), l.length ≤ sz → scanL d sz l = .ok a → ∀ x ∈ a, 0 ≤ x.f2 ∧ x.f2 ≤ (sz : Int) := by
  intro d
  induction d with
  | zero =>
    intro sz l a _ h x hx
    rcases scan_cases h with ⟨h1, rfl⟩ | ⟨d', r, k, y, m, a2, hd, _⟩
    · simp at hx; subst hx; exact ⟨by simp, by simp⟩
    · omega
  | succ d ih =>
    intro sz l a hl h x hx
    rcases scan_cases h with ⟨h1, rfl⟩ | ⟨d2, r, j, y, m, a2, hd, h1, h2, h3, h4, rfl⟩
    · simp at hx; subst hx; exact ⟨by simp, by simp⟩
    · obtain rfl : d = d2 := by omega
      have hr := skip_len h1
      rcases List.mem_cons.1 hx with rfl | hx
      · exact ⟨by simp, by show ((sz - r.length : Nat) : Int) ≤ (sz : Int); omega⟩
      · exact ih sz _ a2 (by rw [List.length_drop]; omega) h4 x hx
theorem scanOk_c (s : ByteArray) (a : List S34) (hs : s.size ≤ 65536) (ha : scanL 1000 s.size s.data.toList = .ok a) (w : World) (ht : Tab w) :
    Calls Tryd.prog 10 #[.string s] w fun e w' => (∃ A c, e = .returned (.tuple #[.slice A a.length c, .int .i64 0, .int .i64 0]) ∧ Kd.C k34 w' A a.length a) ∧ Below w.heap.size w w' := by
  refine (scan_c s w ht hs).mono fun e w' h => ?_
  rw [ha] at h
  obtain ⟨v, rfl, hR, hb⟩ := h
  obtain ⟨A, c, rfl, _, hC⟩ := Kd.R_reads hR
  exact ⟨⟨A, c, rfl, hC⟩, hb⟩
theorem scanErr_c (s : ByteArray) (p : Nat) (hs : s.size ≤ 65536) (ha : scanL 1000 s.size s.data.toList = .error p) (w : World) (ht : Tab w) :
    Calls Tryd.prog 10 #[.string s] w fun e w' => e = .returned (.tuple #[.slice none 0 0, .int .i64 p, .int .i64 20]) ∧ Below w.heap.size w w' := by
  refine (scan_c s w ht hs).mono fun e w' h => ?_
  rw [ha] at h
  exact h
theorem scan_len {s : ByteArray} {a : List S34} (h : scanL 1000 s.size s.data.toList = .ok a) : a.length ≤ 1001 := by
  have h2 := scan_places s.data.toList 1000 0 a (by omega)
  rw [List.drop_zero, ← Lib.size_eq] at h2
  exact (h2 h).2
theorem scanAny_c (s : ByteArray) (hs : s.size ≤ 65536) (w : World) (ht : Tab w) :
    Calls Tryd.prog 10 #[.string s] w fun e w' => (∃ A n c p q, e = .returned (.tuple #[.slice A n c, .int .i64 p, .int .i64 q])) ∧ Below w.heap.size w w' := by
  cases ha : scanL 1000 s.size s.data.toList with
  | ok a => exact (scanOk_c s a hs ha w ht).mono fun e w' ⟨⟨A, c, h, _⟩, hb⟩ => ⟨⟨A, a.length, c, 0, 0, h⟩, hb⟩
  | error p => exact (scanErr_c s p hs ha w ht).mono fun e w' ⟨h, hb⟩ => ⟨⟨none, 0, 0, p, 20, h⟩, hb⟩
theorem rd_one (a m : List S34) (i : Nat) (h : i < a.length - 1) : rd_T34 (a.dropLast ++ m) (i : Int) = rd_T34 a (i : Int) := by
  unfold rd_T34
  simp only [Int.toNat_natCast, List.getD_eq_getElem?_getD]
  rw [List.getElem?_append_left (by rw [List.length_dropLast]; exact h), List.getElem?_dropLast, if_pos h]
theorem rd_two (a b : List S34) (K i : Nat) (h1 : a.length - 1 ≤ i) (h2 : i - (a.length - 1) < b.length) : rd_T34 (a.dropLast ++ b.map (shT K)) (i : Int) = shT K (rd_T34 b ((i - (a.length - 1) : Nat) : Int)) := by
  unfold rd_T34
  simp only [Int.toNat_natCast, List.getD_eq_getElem?_getD]
  rw [List.getElem?_append_right (by rw [List.length_dropLast]; exact h1), List.length_dropLast, List.getElem?_map, List.getElem?_eq_getElem h2]
  rfl
theorem rd_in (b : List S34) (i : Nat) (h : i < b.length) : rd_T34 b (i : Int) ∈ b := by
  unfold rd_T34
  simp only [Int.toNat_natCast, List.getD_eq_getElem?_getD]
  rw [List.getElem?_eq_getElem h]
  exact List.getElem_mem h
set_option maxRecDepth 100000 in
set_option maxHeartbeats 8000000 in
theorem blanks_c (s t r : ByteArray) (hr : r.size ≤ 9223372036854775807) (w : World) (ht : Tab w) :
    Calls Tryd.prog 7 #[.string s, .string t, .string r] w fun e w' => e = .returned (.bool true) ∧ Below w.heap.size w w' := by
  have HT := hidF ht
  clear ht
  go_enter Tryd.func7, Tryd.ntmps7
  go_wp2_with (go_at_call 9; ((with_reducible refine (awakeL_c _ HT.out).mono ?_); rintro e w1 ⟨rfl, hb1⟩; have HB1 := hidF hb1; clear hb1))
  go_loopw [7] (fun v wr => ∃ i : Nat, v = .int .i64 (i : Int) ∧ i ≤ r.size ∧ Hid (Below w.heap.size w wr) ∧ Hid (∀ j (h : j < r.size), j < i → r[j] ≠ 42 ∧ r[j] ≠ 47)) (fun v _ => r.size - (intOf v).toNat)
  case atStart => exact ⟨0, rfl, by omega, HB1, hidF (fun j _ h => absurd h (by omega))⟩
  case round =>
    clear HB1
    obtain ⟨i, rfl, hir, HB, HN⟩ := hrel
    by_cases hlt : i < r.size
    · by_cases h42 : r[i] = 42
      · have q1 : (((r[i]).toNat : Int) == 42) = true := by rw [h42]; rfl
        clear h42
        go_wp2
        go_ret
        exact ⟨rfl, HB.out⟩
      · have q1 : (((r[i]).toNat : Int) == 42) = false := by
          rw [beq_eq_false_iff_ne]; intro h; exact h42 (UInt8.toNat_inj.1 (by show (r[i]).toNat = 42; omega))
        by_cases h47 : r[i] = 47
        · have q2 : (((r[i]).toNat : Int) == 47) = true := by rw [h47]; rfl
          clear h42 h47
          go_wp2
          go_ret
          exact ⟨rfl, HB.out⟩
        · have q2 : (((r[i]).toNat : Int) == 47) = false := by
            rw [beq_eq_false_iff_ne]; intro h; exact h47 (UInt8.toNat_inj.1 (by show (r[i]).toNat = 47; omega))
          have HN2 : Hid (∀ j (h : j < r.size), j < i + 1 → r[j] ≠ 42 ∧ r[j] ≠ 47) := hidF (fun j h hj => by
            by_cases hji : j = i
            · subst hji; exact ⟨h42, h47⟩
            · exact HN.out j h (by omega))
          clear h42 h47
          go_wp2
          go_roundw
          case rel => exact ⟨i + 1, by go_num, by omega, HB, HN2⟩
          case measure => simp [intOf]; omega
    · have HNR : Hid (∀ b ∈ r.data.toList, b ≠ 42) := hidF (fun b hb => by
        obtain ⟨j, hj, rfl⟩ := List.mem_iff_getElem.1 hb
        have hj2 : j < r.size := by rw [Lib.size_eq]; exact hj
        exact (HN.out j hj2 (by omega)).1)
      clear HN
      have HIR := hidF (show i = r.size by omega)
      by_cases hz : s.size ≤ 32668 ∧ t.size ≤ 32668 ∧ r.size ≤ 90
      · obtain ⟨z1, z2, z3⟩ := hz
        have d1 : decide (32668 < (s.size : Int)) = false := decide_eq_false (by omega)
        have d2 : decide (32668 < (t.size : Int)) = false := decide_eq_false (by omega)
        have d3 : decide (90 < (r.size : Int)) = false := decide_eq_false (by omega)
        have AB := hidF (fun W (h : Tab W) => scanAny_c t (by omega) W h)
        cases ha : scanL 1000 s.size s.data.toList with
        | error p =>
          have SA := hidF (fun W (h : Tab W) => scanErr_c s p (by omega) ha W h)
          clear ha
          go_wp2_with (first
            | (go_at_call 10; (fail_if_success (have := w2)); ((with_reducible refine (SA.out _ (HT.out.below HB.out)).mono ?_); rintro e w2 ⟨rfl, hb⟩; have HB2 := hidF (HB.out.trans (hb.mono HB.out.size)); clear hb))
            | (go_at_call 10; ((with_reducible refine (AB.out _ (HT.out.below HB2.out)).mono ?_); rintro e w3 ⟨⟨A3, n3, c3, p3, q3, rfl⟩, hb⟩; have HB3 := hidF (HB2.out.trans (hb.mono HB2.out.size)); clear hb)))
          go_ret
          exact ⟨rfl, HB3.out⟩
        | ok a =>
          have SA := hidF (fun W (h : Tab W) => scanOk_c s a (by omega) ha W h)
          cases hb : scanL 1000 t.size t.data.toList with
          | error p =>
            have SB := hidF (fun W (h : Tab W) => scanErr_c t p (by omega) hb W h)
            clear ha hb AB
            go_wp2_with (first
              | (go_at_call 10; (fail_if_success (have := w2)); ((with_reducible refine (SA.out _ (HT.out.below HB.out)).mono ?_); rintro e w2 ⟨⟨A2, c2, rfl, hC2⟩, hb⟩; have HB2 := hidF (HB.out.trans (hb.mono HB.out.size)); clear hb hC2))
              | (go_at_call 10; ((with_reducible refine (SB.out _ (HT.out.below HB2.out)).mono ?_); rintro e w3 ⟨rfl, hb⟩; have HB3 := hidF (HB2.out.trans (hb.mono HB2.out.size)); clear hb)))
            go_ret
            exact ⟨rfl, HB3.out⟩
          | ok b =>
            have SB := hidF (fun W (h : Tab W) => scanOk_c t b (by omega) hb W h)
            have ha1 := scan_ne ha
            have hb1 := scan_ne hb
            clear AB
            by_cases hn : a.length + b.length ≤ 1000
            · have dn : decide (1000 < (a.length : Int) + (b.length : Int)) = false := decide_eq_false (by omega)
              have hcd : (s ++ ⟨#[10]⟩ ++ t : ByteArray).data.toList = s.data.toList ++ 10 :: t.data.toList := by simp
              have hdd : (s ++ ⟨#[10, 47, 42]⟩ ++ r ++ ⟨#[42, 47]⟩ ++ t : ByteArray).data.toList = s.data.toList ++ 10 :: (47 :: 42 :: (r.data.toList ++ 42 :: 47 :: t.data.toList)) := by simp
              rw [Lib.size_eq] at ha hb
              have hc := scan_two s.data.toList t.data.toList t.data.toList a b ha hb hn rfl (Nat.le_refl _)
              have hd := scan_two s.data.toList t.data.toList (47 :: 42 :: (r.data.toList ++ 42 :: 47 :: t.data.toList)) a b ha hb hn (skip_remark2 _ _ HNR.out) (by simp; omega)
              obtain ⟨K, hK⟩ : ∃ K, s.data.toList.length + ((47 :: 42 :: (r.data.toList ++ 42 :: 47 :: t.data.toList)).length + 1) - t.data.toList.length = K := ⟨_, rfl⟩
              obtain ⟨M, hM⟩ : ∃ M, s.data.toList.length + (t.data.toList.length + 1) - t.data.toList.length = M := ⟨_, rfl⟩
              have hMs : (M : Int) = (s.size : Int) + 1 := by rw [Lib.size_eq]; omega
              rw [hK] at hd
              rw [hM] at hc
              obtain ⟨cl, hcl⟩ : ∃ cl, a.dropLast ++ b.map (shT M) = cl := ⟨_, rfl⟩
              obtain ⟨dl, hdl⟩ : ∃ dl, a.dropLast ++ b.map (shT K) = dl := ⟨_, rfl⟩
              rw [hcl] at hc
              rw [hdl] at hd
              have lcl : cl.length = a.length - 1 + b.length := by rw [← hcl]; simp
              have ldl : dl.length = a.length - 1 + b.length := by rw [← hdl]; simp
              have F2 := hidF (scan_at 1000 _ _ b (Nat.le_refl _) hb)
              have SC : Hid (∀ W, Tab W → Calls Tryd.prog 10 #[.string (s ++ ⟨#[10]⟩ ++ t)] W fun e w' => (∃ A c, e = .returned (.tuple #[.slice A cl.length c, .int .i64 0, .int .i64 0]) ∧ Kd.C k34 w' A cl.length cl) ∧ Below W.heap.size W w') := hidF (fun W h => scanOk_c _ cl (by rw [Lib.size_eq, hcd]; simp; omega) (by rw [Lib.size_eq, hcd]; simpa using hc) W h)
              have SD : Hid (∀ W, Tab W → Calls Tryd.prog 10 #[.string (s ++ ⟨#[10, 47, 42]⟩ ++ r ++ ⟨#[42, 47]⟩ ++ t)] W fun e w' => (∃ A c, e = .returned (.tuple #[.slice A dl.length c, .int .i64 0, .int .i64 0]) ∧ Kd.C k34 w' A dl.length dl) ∧ Below W.heap.size W w') := hidF (fun W h => scanOk_c _ dl (by rw [Lib.size_eq, hdd]; simp; omega) (by rw [Lib.size_eq, hdd]; simpa using hd) W h)
              have HCL := hidF hcl
              have HDL := hidF hdl
              have HMS := hidF hMs
              have e1 : ((cl.length : Int) != (a.length : Int) + (b.length : Int) - 1) = false := by rw [bne_eq_false_iff_eq]; omega
              have e2 : ((dl.length : Int) != (cl.length : Int)) = false := by rw [bne_eq_false_iff_eq]; omega
              have hlt5 : t.data.toList.length ≤ 32668 := by rw [← Lib.size_eq]; omega
              clear hcd hdd ha hb hc hd hK hM hcl hdl hMs d1 d2 d3 HNR
              have d1 : decide (32668 < (s.size : Int)) = false := decide_eq_false (by omega)
              have d2 : decide (32668 < (t.size : Int)) = false := decide_eq_false (by omega)
              have d3 : decide (90 < (r.size : Int)) = false := decide_eq_false (by omega)
              have lcl' : cl.length ≤ 1000 := by omega
              have ldl' : dl.length ≤ 1000 := by omega
              have LCL := hidF lcl
              have LDL := hidF ldl
              clear lcl ldl
              go_wp2_with (first
                | (go_at_call 10; (fail_if_success (have := w2)); ((with_reducible refine (SA.out _ (HT.out.below HB.out)).mono ?_); rintro e w2 ⟨⟨A2, c2, rfl, hC2⟩, hb⟩; have HB2 := hidF (HB.out.trans (hb.mono HB.out.size)); have HA2 := hidF hC2; clear hb hC2))
                | (go_at_call 10; (fail_if_success (have := w3)); ((with_reducible refine (SB.out _ (HT.out.below HB2.out)).mono ?_); rintro e w3 ⟨⟨A3, c3, rfl, hC3⟩, hb⟩; have HB3 := hidF (HB2.out.trans (hb.mono HB2.out.size)); have HA3 := hidF (Kd.C_below HA2.out hb); have HE3 := hidF hC3; clear hb hC3 HA2))
                | (go_at_call 10; (fail_if_success (have := w4)); ((with_reducible refine (SC.out _ (HT.out.below HB3.out)).mono ?_); rintro e w4 ⟨⟨A4, c4, rfl, hC4⟩, hb⟩; have HB4 := hidF (HB3.out.trans (hb.mono HB3.out.size)); have HA4 := hidF (Kd.C_below HA3.out hb); have HE4 := hidF (Kd.C_below HE3.out hb); have HC4 := hidF hC4; clear hb hC4 HA3 HE3))
                | (go_at_call 10; ((with_reducible refine (SD.out _ (HT.out.below HB4.out)).mono ?_); rintro e w5 ⟨⟨A5, c5, rfl, hC5⟩, hb⟩; have HB5 := hidF (HB4.out.trans (hb.mono HB4.out.size)); have HA5 := hidF (Kd.C_below HA4.out hb); have HE5 := hidF (Kd.C_below HE4.out hb); have HC5 := hidF (Kd.C_below HC4.out hb); have HD5 := hidF hC5; clear hb hC5 HA4 HE4 HC4)))
              clear SA SB SC SD HB HB2 HB3 HB4
              go_loopw [20] (fun v wr => ∃ i : Nat, v = .int .i64 (i : Int) ∧ i ≤ cl.length ∧ Hid (Below w5.heap.size w5 wr)) (fun v _ => cl.length - (intOf v).toNat)
              case atStart => exact ⟨0, rfl, by omega, hidF (Below.refl _ _)⟩
              case round =>
                obtain ⟨i, rfl, hic, HB⟩ := hrel
                by_cases hlt : i < cl.length
                · have hia : (i : Int) < (cl.length : Int) := by omega
                  have hid_ : (i : Int) < (dl.length : Int) := by have := LCL.out; have := LDL.out; omega
                  have hi0 : (0 : Int) ≤ (i : Int) := by omega
                  obtain ⟨ad4, e4, c40, c41, c42⟩ := at_T34 (Kd.C_below HC5.out HB.out) i hi0 hia
                  cases e4
                  obtain ⟨ad5, e5, c50, c51, c52⟩ := at_T34 (Kd.C_below HD5.out HB.out) i hi0 hid_
                  cases e5
                  have hs5 : w5.heap.size ≤ wr.heap.size := HB.out.size
                  have b4 : (ad4.add (i * 3)).block < wr.heap.size := World.block_lt_of_cell? wr _ c40
                  have b5 : (ad5.add (i * 3)).block < wr.heap.size := World.block_lt_of_cell? wr _ c50
                  have n4 : ¬ (ad4.add (i * 3)).block = wr.heap.size := by omega
                  have n4' : ¬ wr.heap.size = (ad4.add (i * 3)).block := by omega
                  have n5 : ¬ (ad5.add (i * 3)).block = wr.heap.size := by omega
                  have n5' : ¬ wr.heap.size = (ad5.add (i * 3)).block := by omega
                  by_cases hia1 : i < a.length - 1
                  · have hda : decide ((i : Int) < (a.length : Int) - 1) = true := decide_eq_true (by omega)
                    have hil : (i : Int) < (a.length : Int) := by omega
                    obtain ⟨ad2, e2_, c20, c21, c22⟩ := at_T34 (Kd.C_below HA5.out HB.out) i hi0 hil
                    cases e2_
                    have b2 : (ad2.add (i * 3)).block < wr.heap.size := World.block_lt_of_cell? wr _ c20
                    have n2 : ¬ (ad2.add (i * 3)).block = wr.heap.size := by omega
                    have n2' : ¬ wr.heap.size = (ad2.add (i * 3)).block := by omega
                    have r4 : rd_T34 cl (i : Int) = rd_T34 a (i : Int) := by rw [← HCL.out]; exact rd_one _ _ _ hia1
                    have r5 : rd_T34 dl (i : Int) = rd_T34 a (i : Int) := by rw [← HDL.out]; exact rd_one _ _ _ hia1
                    rw [r4] at c40 c41 c42
                    rw [r5] at c50 c51 c52
                    generalize rd_T34 a (i : Int) = y at *
                    obtain ⟨y0, y1, y2⟩ := y
                    simp only [Int.toNat_natCast] at c20 c21 c22 c40 c41 c42 c50 c51 c52
                    clear r4 r5
                    go_wp2
                    go_quiet (fail)
                    go_wp2
                    go_roundw
                    case rel => exact ⟨i + 1, by go_num, by omega, hidF (by repeat (first | (with_reducible exact HB.out) | (with_reducible exact Below.refl _ _) | (with_reducible refine below_al ?_ _) | (with_reducible refine below_drewN ?_ _) | (with_reducible refine Below.drew ?_) | (with_reducible refine below_via (by assumption) ?_) | (with_reducible refine below_sc ?_ ?_ _; · (first | (simp; done) | (simp; omega) | omega))))⟩
                    case measure => simp [intOf]; omega
                  · have hda : decide ((i : Int) < (a.length : Int) - 1) = false := decide_eq_false (by omega)
                    have hL := LCL.out
                    obtain ⟨j, hj⟩ : ∃ j, i - (a.length - 1) = j := ⟨_, rfl⟩
                    have hjb : j < b.length := by omega
                    have hil : (j : Int) < (b.length : Int) := by omega
                    have hj0 : (0 : Int) ≤ (j : Int) := by omega
                    have hjj : IntKind.i64.wrap ((i : Int) - (a.length : Int) + 1) = (j : Int) := by rw [IntKind.wrap_i64]; omega
                    have hjk : (i : Int) - (a.length : Int) + 1 = (j : Int) := by omega
                    obtain ⟨ad2, e2_, c20, c21, c22⟩ := at_T34 (Kd.C_below HE5.out HB.out) j hj0 hil
                    cases e2_
                    have b2 : (ad2.add (j * 3)).block < wr.heap.size := World.block_lt_of_cell? wr _ c20
                    have n2 : ¬ (ad2.add (j * 3)).block = wr.heap.size := by omega
                    have n2' : ¬ wr.heap.size = (ad2.add (j * 3)).block := by omega
                    have r4 : rd_T34 cl (i : Int) = shT M (rd_T34 b (j : Int)) := by rw [← HCL.out, rd_two _ _ _ _ (by omega) (by omega), hj]
                    have r5 : rd_T34 dl (i : Int) = shT K (rd_T34 b (j : Int)) := by rw [← HDL.out, rd_two _ _ _ _ (by omega) (by omega), hj]
                    obtain ⟨y0_, y1_⟩ := F2.out _ (rd_in b j hjb)
                    rw [r4] at c40 c41 c42
                    rw [r5] at c50 c51 c52
                    generalize rd_T34 b (j : Int) = y at *
                    obtain ⟨y0, y1, y2⟩ := y
                    simp only [shT, Int.toNat_natCast] at c20 c21 c22 c40 c41 c42 c50 c51 c52 y0_ y1_
                    rw [HMS.out] at c42
                    clear r4 r5 hL hj
                    go_wp2
                    go_quiet (fail)
                    go_wp2
                    go_roundw
                    case rel => exact ⟨i + 1, by go_num, by omega, hidF (by repeat (first | (with_reducible exact HB.out) | (with_reducible exact Below.refl _ _) | (with_reducible refine below_al ?_ _) | (with_reducible refine below_drewN ?_ _) | (with_reducible refine Below.drew ?_) | (with_reducible refine below_via (by assumption) ?_) | (with_reducible refine below_sc ?_ ?_ _; · (first | (simp; done) | (simp; omega) | omega))))⟩
                    case measure => simp [intOf]; omega
                · go_wp2
                  go_ret
                  exact ⟨rfl, HB5.out.trans (HB.out.mono HB5.out.size)⟩
            · have dn : decide (1000 < (a.length : Int) + (b.length : Int)) = true := decide_eq_true (by omega)
              have la : a.length ≤ 1001 := scan_len ha
              have lb : b.length ≤ 1001 := scan_len hb
              clear ha hb hn
              go_wp2_with (first
                | (go_at_call 10; (fail_if_success (have := w2)); ((with_reducible refine (SA.out _ (HT.out.below HB.out)).mono ?_); rintro e w2 ⟨⟨A2, c2, rfl, hC2⟩, hb⟩; have HB2 := hidF (HB.out.trans (hb.mono HB.out.size)); clear hb hC2))
                | (go_at_call 10; ((with_reducible refine (SB.out _ (HT.out.below HB2.out)).mono ?_); rintro e w3 ⟨⟨A3, c3, rfl, hC3⟩, hb⟩; have HB3 := hidF (HB2.out.trans (hb.mono HB2.out.size)); clear hb hC3)))
              go_ret
              exact ⟨rfl, HB3.out⟩
      · by_cases z1 : s.size ≤ 32668
        · have d1 : decide (32668 < (s.size : Int)) = false := decide_eq_false (by omega)
          by_cases z2 : t.size ≤ 32668
          · have d2 : decide (32668 < (t.size : Int)) = false := decide_eq_false (by omega)
            have d3 : decide (90 < (r.size : Int)) = true := decide_eq_true (by omega)
            go_wp2
            go_ret
            exact ⟨rfl, HB.out⟩
          · have d2 : decide (32668 < (t.size : Int)) = true := decide_eq_true (by omega)
            go_wp2
            go_ret
            exact ⟨rfl, HB.out⟩
        · have d1 : decide (32668 < (s.size : Int)) = true := decide_eq_true (by omega)
          go_wp2
          go_ret
          exact ⟨rfl, HB.out⟩
theorem walkLexBlanks (s t r : ByteArray) (w0 : s.size ≤ maxLen) (w1 : t.size ≤ maxLen) (w2 : r.size ≤ maxLen) (w : World) (ht : Tab w) :
    Calls Tryd.prog 7 #[.string s, .string t, .string r] w fun e w' => e = .returned (.bool true) ∧ Below w.heap.size w w' :=
  blanks_c s t r w2 w ht
end Go.Proofs.YtlaafpbhhnehgaaDoor
end
