/- row.Encode: a row's bytes. -/
import Derived.Test.YthpkjkcfhipjhaaGreatDoorR9b
import Derived.Test.YthpkjkcfhipjhaaGreatDoorMC
import Derived.Test.YthpkjkcfhipjhaaGreatDoorV10
namespace Go.Proofs.YthpkjkcfhipjhaaGreatDoor
set_option linter.unusedVariables false
set_option linter.unusedSimpArgs false
open Go.RowKit Go.Proofs.YthpkjkcfhipjhaaGreatDoorW.PrintWords Go.Proofs.YthpkjkcfhipjhaaGreatDoorW.PrintLast PRW

/-- what the library's tables and variables hold -/
structure RTab (w : World) : Prop where
  pow : Tab w
  deB : TabD w
  len : ∃ m, w.cell? ⟨1, 0, none⟩ = some (.int .i64 m)
theorem RTab.one {w : World} (h : RTab w) : 1 < w.heap.size := by
  obtain ⟨m, hm⟩ := h.len
  exact World.block_lt_of_cell? w _ hm
theorem RTab.below {w w' : World} (h : RTab w) (hb : Below w.heap.size w w') : RTab w' := by
  obtain ⟨m, hm⟩ := h.len
  exact ⟨h.pow.below hb, Lib.tabBelow_of_tabIs h.deB w' hb, m, by rw [hb.cell (p := ⟨1, 0, none⟩) h.one]; exact hm⟩

theorem esc_c (s : ByteArray) (w : World) (ht : RTab w) (hs : s.size ≤ 4096) :
    Calls Tryz.prog 62 #[.string s, .string ⟨#[0]⟩, .string ⟨#[0, 255]⟩] w fun e w' => e = .returned (.string (bs (escT s.data.toList))) ∧ Below w.heap.size w w' := by
  obtain ⟨m, hm⟩ := ht.len
  refine (Tryz.strings_ReplaceAll s ⟨#[0]⟩ ⟨#[0, 255]⟩ m w (by omega) hm (by decide) ?_).mono ?_
  · have h1 := Lib.countB_le ⟨#[0]⟩ (by decide) s.size s (Nat.le_refl _)
    have h2 : (⟨#[0, 255]⟩ : ByteArray).size = 2 := rfl
    rw [h2]; omega
  · rintro e w' ⟨rfl, hb⟩
    refine ⟨?_, hb⟩
    show Ending.returned (.string ⟨(Lib.replaceAll s.data.toList [0] [0, 255]).toArray⟩) = _
    rw [replaceAll_esc]; rfl

theorem writeByte_k (B b : Nat) (l : List UInt8) (c : UInt8) (x : Int) (hx : x = (c.toNat : Int)) (w : World) (h : Bld B b l w) (hlen : l.length + 1 ≤ 140737488355328) (hBw : B ≤ w.heap.size) :
    Calls Tryz.prog 57 #[.pointer (some ⟨b, 0, none⟩), .int .u8 x] w fun e w' => e = .returned .nilIface ∧ Bld B b (l ++ [c]) w' ∧ Below B w w' ∧ KeepT b w w' := by
  subst hx; exact writeByte_f B b l c w h hlen hBw
theorem Bld.bel {B g : Nat} {l : List UInt8} {w w' : World} (h : Bld B g l w) (hf : Below w.heap.size w w') : Bld B g l w' := by
  have hlt := h.lt
  have own : ∀ {v : Value} {n : Nat} {xs : List Value}, w.ownsRow B 5 1 v n xs → w'.ownsRow B 5 1 v n xs := by
    rintro v n xs ⟨h1, h2⟩
    refine ⟨h1, ?_⟩
    rcases h2 with h2 | ⟨g, cap, cur, hv, hB, hh, hr⟩
    · exact .inl h2
    · exact .inr ⟨g, cap, cur, hv, hB, by rw [hf.block g (heap_lt hh)]; exact hh, hr⟩
  rcases h with ⟨hB, v, hbk, hown, hne⟩ | ⟨hB, v, hbk, hown, hne⟩
  · exact .inl ⟨hB, v, (hf.block g hlt).trans hbk, own hown, hne⟩
  · exact .inr ⟨hB, v, (hf.block g hlt).trans hbk, own hown, hne⟩
/-- a value in block g, the block known whole -/
def BxH (w : World) (g : Nat) (k n f : Int) (t : ByteArray) : Prop := w.heap[g]? = some (.cells #[.int .i64 k, .int .i64 n, .int .u64 f, .string t] 64 (0, 0))
theorem BxH.cells {w : World} {g : Nat} {k n f : Int} {t : ByteArray} (h : BxH w g k n f t) : w.cell? ⟨g, 0, none⟩ = some (.int .i64 k) ∧ w.cell? ⟨g, 1, none⟩ = some (.int .i64 n) ∧ w.cell? ⟨g, 2, none⟩ = some (.int .u64 f) ∧ w.cell? ⟨g, 3, none⟩ = some (.string t) :=
  ⟨by rw [Lib.cell_of_heap h]; rfl, by rw [Lib.cell_of_heap h]; rfl, by rw [Lib.cell_of_heap h]; rfl, by rw [Lib.cell_of_heap h]; rfl⟩
theorem BxH.keep {w w' : World} {g b : Nat} {k n f : Int} {t : ByteArray} (h : BxH w g k n f t) (hk : KeepT b w w') (hg : g ≠ b) : BxH w' g k n f t := hk _ _ _ _ hg (by decide) h
theorem BxH.bel {w w' : World} {g : Nat} {k n f : Int} {t : ByteArray} (h : BxH w g k n f t) (hb : Below w.heap.size w w') : BxH w' g k n f t := (hb.block g (heap_lt h)).trans h
theorem below_tr {B : Nat} {w w1 w2 : World} (h : Below B w w1) (k : Below w1.heap.size w1 w2) (hB : B ≤ w1.heap.size) : Below B w w2 := h.trans (k.mono hB)
theorem encR_snoc (l : List S64) (c : Int) (h0 : 0 ≤ c) (h : c < l.length) : encR ((l.take (c + 1).toNat).map toV) = encR ((l.take c.toNat).map toV) ++ encV (toV (rd_T64 l c)) := by
  have h' : c.toNat < l.length := by omega
  rw [show (c + 1).toNat = c.toNat + 1 by omega, List.take_succ_eq_append_getElem h', List.map_append, enc_app]
  have : rd_T64 l c = l[c.toNat] := by unfold rd_T64; simp [h']
  rw [this]; simp [encR]

theorem xorI (n : Int) (h : I64 n) : Go.bits .xor .u64 (IntKind.u64.wrap n) 9223372036854775808 = (((n + 9223372036854775808).toNat : Nat) : Int) := by
  obtain ⟨h1, h2⟩ := h
  rw [IntKind.wrap_u64]
  have e := u64_xor_nat (n % 18446744073709551616).toNat 9223372036854775808 (by omega) (by decide)
  rw [show ((9223372036854775808 : Nat) : Int) = 9223372036854775808 from rfl, show (((n % 18446744073709551616).toNat : Nat) : Int) = n % 18446744073709551616 by omega] at e
  rw [e]
  have hx := xorN (n % 18446744073709551616).toNat (by omega)
  rw [show (((n % 18446744073709551616).toNat : Nat) : Int) = n % 18446744073709551616 by omega, e, IntKind.wrap_i64] at hx
  have hlt : ((n % 18446744073709551616).toNat ^^^ 9223372036854775808) < 18446744073709551616 := Nat.xor_lt_two_pow (n := 64) (by omega) (by decide)
  generalize ((n % 18446744073709551616).toNat ^^^ 9223372036854775808) = q at *
  omega

set_option maxRecDepth 100000 in
set_option maxHeartbeats 4000000 in
theorem encode_no (A0 : Option Addr) (c0 : Nat) (l : List S64) (w : World) (hr : Kd.C k64 w A0 l.length l) (hI : ∀ x ∈ l, I64 x.f1) (hs : soundL l = false) :
    Calls Tryz.prog 25 #[.slice A0 l.length c0] w fun e w' => e = .returned (.tuple #[.string ⟨#[]⟩, .int .i64 1]) ∧ Below w.heap.size w w' := by
  have H1 := hidF (rowSound_c A0 c0 l w hr hI)
  rw [hs] at H1
  clear hr hI hs
  go_enter Tryz.func25, Tryz.ntmps25
  go_wp2_with (go_at_call 29; (with_reducible refine H1.out.mono ?_); rintro e w1 ⟨rfl, hb1⟩)
  go_ret2
  exact ⟨rfl, (by repeat (first | (with_reducible exact Below.refl _ _) | (with_reducible refine below_al ?_ _) | (with_reducible refine below_drewN ?_ _) | (with_reducible refine Below.drew ?_) | (with_reducible refine below_via (by assumption) ?_) | (with_reducible refine below_sc ?_ ?_ _; · (first | (simp; done) | (simp; omega) | omega))))⟩

set_option maxRecDepth 100000 in
set_option maxHeartbeats 4000000 in
theorem encode_yes (A0 : Option Addr) (c0 : Nat) (l : List S64) (w : World) (ht : RTab w) (hr : Kd.C k64 w A0 l.length l) (hI : ∀ x ∈ l, I64 x.f1) (hU : ∀ x ∈ l, U64 x.f2) (hs : soundL l = true) :
    Calls Tryz.prog 25 #[.slice A0 l.length c0] w fun e w' => e = .returned (.tuple #[.string (bs (encR (l.map toV))), .int .i64 0]) ∧ Below w.heap.size w w' := by
  have H1 := hidF (rowSound_c A0 c0 l w hr hI)
  rw [hs] at H1
  have HR := hidF hr
  have HI := hidF hI
  have HU := hidF hU
  have HT := hidF ht
  have hl : l.length ≤ 1024 := by
    unfold soundL at hs; simp at hs; exact hs.1
  have HS : Hid (∀ x ∈ l, soundV x.f0 x.f1 x.f2 x.f3 = true) := hidF (by unfold soundL at hs; simp at hs; exact hs.2)
  clear hr hI hU hs ht
  have hu := Tryz.underlying64
  go_enter Tryz.func25, Tryz.ntmps25
  go_wp2_with (go_at_call 29; (with_reducible refine H1.out.mono ?_); rintro e w1 ⟨rfl, hb1⟩)
  go_loopw [12] (fun v wr => ∃ c : Int, v = Value.int .i64 c ∧ 0 ≤ c ∧ c ≤ l.length ∧ Below w1.heap.size w1 wr ∧ Hid (Bld w1.heap.size w1.heap.size (encR ((l.take c.toNat).map toV)) wr) ∧ w1.heap.size < wr.heap.size) (fun v _ => l.length - natOf v)
  case atStart => exact ⟨0, rfl, by omega, by omega, (by repeat (first | (with_reducible exact Below.refl _ _) | (with_reducible refine below_al ?_ _) | (with_reducible refine below_drewN ?_ _) | (with_reducible refine Below.drew ?_) | (with_reducible refine below_via (by assumption) ?_) | (with_reducible refine below_sc ?_ ?_ _; · (first | (simp; done) | (simp; omega) | omega)))), hidF (by simpa [encR] using bld_new w1), by simp⟩
  case round =>
    obtain ⟨c, rfl, hc0, hcl, HBl', HBd, hws⟩ := hrel
    have HBl := hidF HBl'
    clear HBl'
    have hEl : (encR ((l.take c.toNat).map toV)).length ≤ 8391680 := by
      have h1 := encR_len ((l.take c.toNat).map toV) (fun y hy => by
        obtain ⟨z, hz, rfl⟩ := List.mem_map.1 hy
        exact HS.out z (List.mem_of_mem_take hz))
      rw [List.length_map, List.length_take] at h1
      omega
    have hng : wr.heap.size ≠ w1.heap.size := by omega
    by_cases hlt : c < l.length
    · have hmem := rd_mem l c hc0 hlt
      have hxI := HI.out _ hmem
      have hxU := HU.out _ hmem
      have hxS := HS.out _ hmem
      have hE := hidF (encR_snoc l c hc0 hlt)
      obtain ⟨ad, e, h0, h1, h2, h3⟩ := at_T64 HR.out c hc0 hlt
      cases e
      have HB01 := Below.trans hb1 (HBl.out.mono hb1.size)
      replace h0 := (HB01.cell (World.block_lt_of_cell? w _ h0)).trans h0
      replace h1 := (HB01.cell (World.block_lt_of_cell? w _ h1)).trans h1
      replace h2 := (HB01.cell (World.block_lt_of_cell? w _ h2)).trans h2
      replace h3 := (HB01.cell (World.block_lt_of_cell? w _ h3)).trans h3
      clear HB01 hmem
      generalize encR ((l.take c.toNat).map toV) = E at *
      generalize rd_T64 l c = x at *
      obtain ⟨k, n, f, t⟩ := x
      simp only at h0 h1 h2 h3 hxI hxU hxS
      have hok : okV ⟨k, n, f, t⟩ := ⟨hxS, hxI, hxU⟩
      have hwv := wordV_lt hok
      rw [show 256 ^ 8 = 18446744073709551616 by decide] at hwv
      have hfU : U64 f := hxU
      rcases sound_cases hxS with hk | hk | hk | hk | hk
      all_goals (obtain ⟨rfl, hk⟩ := hk; clear hxS hok)
      rotate_left
      · have hE2 : Hid (encR ((l.take (c + 1).toNat).map toV) = E ++ [1] ++ beB 8 (wordV ⟨1, n, f, t⟩)) := hidF (by rw [hE.out]; simp [encV, toV])
        have hxo := xorI n hxI
        have hwe : (((n + 9223372036854775808).toNat : Nat) : Int) = ((wordV ⟨1, n, f, t⟩ : Nat) : Int) := rfl
        clear hE hxI hxU hk
        go_wp2_with fail
        (with_reducible refine (writeByte_k w1.heap.size w1.heap.size E 1 _ (by simp) _ (bld_al HBd.out _) (by omega) (by simp; omega)).mono ?_)
        rintro e w2 ⟨rfl, hB2, hb2, hK2⟩
        have HX2 := hidF (BxH.keep (show BxH (wr.alloc (.cells #[.int .i64 1, .int .i64 n, .int .u64 f, .string t] 64)) wr.heap.size 1 n f t from heap_alloc_new wr _) hK2 hng)
        have HBd2 := hidF hB2
        have HBl2 := hidF ((HBl.out.alloc (by omega) _).trans hb2)
        have hs2 := hb2.size
        simp at hs2
        clear hB2 hb2 hK2
        obtain ⟨a0, a1, a2, a3⟩ := HX2.out.cells
        go_wp2_with fail
        (with_reducible refine (word_c (wordV ⟨1, n, f, t⟩) hwv _ rfl _).mono ?_)
        rintro e w3 ⟨ad, cp, rfl, hcells, had, hb3⟩
        have HBd3 := hidF (HBd2.out.bel hb3)
        have HBl3 := hidF (below_tr HBl2.out hb3 (by omega))
        have hs3 := hb3.size
        clear hb3 a0 a1 a2 a3
        go_wp2_with fail
        (with_reducible refine (write_f w1.heap.size w1.heap.size (E ++ [1]) ad 8 cp (beB 8 (wordV ⟨1, n, f, t⟩)) _ HBd3.out (by simp; omega) (by omega) (beB_len _ _) hcells (by omega)).mono ?_)
        rintro e w4 ⟨rfl, hB4, hb4, hK4⟩
        have HBl4 := HBl3.out.trans hb4
        go_wp2_with fail
        go_roundw
        case rel => exact ⟨c + 1, rfl, by omega, by omega, HBl4, hidF (by rw [hE2.out]; exact hB4), hB4.lt⟩
        case measure => simp [natOf]; omega
      · have hE2 : Hid (encR ((l.take (c + 1).toNat).map toV) = E ++ [2] ++ beB 8 (wordV ⟨2, n, f, t⟩)) := hidF (by rw [hE.out]; simp [encV, toV])
        have hxo := xorI n hxI
        have hwe : (((n + 9223372036854775808).toNat : Nat) : Int) = ((wordV ⟨2, n, f, t⟩ : Nat) : Int) := rfl
        clear hE hxI hxU hk
        go_wp2_with fail
        (with_reducible refine (writeByte_k w1.heap.size w1.heap.size E 2 _ (by simp) _ (bld_al HBd.out _) (by omega) (by simp; omega)).mono ?_)
        rintro e w2 ⟨rfl, hB2, hb2, hK2⟩
        have HX2 := hidF (BxH.keep (show BxH (wr.alloc (.cells #[.int .i64 2, .int .i64 n, .int .u64 f, .string t] 64)) wr.heap.size 2 n f t from heap_alloc_new wr _) hK2 hng)
        have HBd2 := hidF hB2
        have HBl2 := hidF ((HBl.out.alloc (by omega) _).trans hb2)
        have hs2 := hb2.size
        simp at hs2
        clear hB2 hb2 hK2
        obtain ⟨a0, a1, a2, a3⟩ := HX2.out.cells
        go_wp2_with fail
        (with_reducible refine (word_c (wordV ⟨2, n, f, t⟩) hwv _ rfl _).mono ?_)
        rintro e w3 ⟨ad, cp, rfl, hcells, had, hb3⟩
        have HBd3 := hidF (HBd2.out.bel hb3)
        have HBl3 := hidF (below_tr HBl2.out hb3 (by omega))
        have hs3 := hb3.size
        clear hb3 a0 a1 a2 a3
        go_wp2_with fail
        (with_reducible refine (write_f w1.heap.size w1.heap.size (E ++ [2]) ad 8 cp (beB 8 (wordV ⟨2, n, f, t⟩)) _ HBd3.out (by simp; omega) (by omega) (beB_len _ _) hcells (by omega)).mono ?_)
        rintro e w4 ⟨rfl, hB4, hb4, hK4⟩
        have HBl4 := HBl3.out.trans hb4
        go_wp2_with fail
        go_roundw
        case rel => exact ⟨c + 1, rfl, by omega, by omega, HBl4, hidF (by rw [hE2.out]; exact hB4), hB4.lt⟩
        case measure => simp [natOf]; omega
      · have hE2 : Hid (encR ((l.take (c + 1).toNat).map toV) = E ++ [3] ++ beB 8 (wordV ⟨3, n, f, t⟩)) := hidF (by rw [hE.out]; simp [encV, toV])
        have hwe : rKey f = ((wordV ⟨3, n, f, t⟩ : Nat) : Int) := by
          have : 0 ≤ rKey f := by unfold rKey; obtain ⟨u1, u2⟩ := hfU; split <;> omega
          show rKey f = (((rKey f).toNat : Nat) : Int)
          omega
        have hwh := hidF hwe
        clear hE hxI hxU hwe hk
        go_wp2_with fail
        (with_reducible refine (writeByte_k w1.heap.size w1.heap.size E 3 _ (by simp) _ (bld_al HBd.out _) (by omega) (by simp; omega)).mono ?_)
        rintro e w2 ⟨rfl, hB2, hb2, hK2⟩
        have HX2 := hidF (BxH.keep (show BxH (wr.alloc (.cells #[.int .i64 3, .int .i64 n, .int .u64 f, .string t] 64)) wr.heap.size 3 n f t from heap_alloc_new wr _) hK2 hng)
        have HBd2 := hidF hB2
        have HBl2 := hidF ((HBl.out.alloc (by omega) _).trans hb2)
        have hs2 := hb2.size
        simp at hs2
        clear hB2 hb2 hK2
        obtain ⟨a0, a1, a2, a3⟩ := HX2.out.cells
        go_wp2_with fail
        (with_reducible refine (turned_c f hfU _).mono ?_)
        rintro e w6 ⟨rfl, hb6⟩
        have HX6 := hidF (HX2.out.bel hb6)
        have HBd6 := hidF (HBd2.out.bel hb6)
        have HBl6 := hidF (below_tr HBl2.out hb6 (by omega))
        have hs6 := hb6.size
        clear hb6 a0 a1 a2 a3
        obtain ⟨a0, a1, a2, a3⟩ := HX6.out.cells
        go_wp2_with fail
        (with_reducible refine (word_c (wordV ⟨3, n, f, t⟩) hwv _ hwh.out _).mono ?_)
        rintro e w3 ⟨ad, cp, rfl, hcells, had, hb3⟩
        have HBd3 := hidF (HBd6.out.bel hb3)
        have HBl3 := hidF (below_tr HBl6.out hb3 (by omega))
        have hs3 := hb3.size
        clear hb3 a0 a1 a2 a3
        go_wp2_with fail
        (with_reducible refine (write_f w1.heap.size w1.heap.size (E ++ [3]) ad 8 cp (beB 8 (wordV ⟨3, n, f, t⟩)) _ HBd3.out (by simp; omega) (by omega) (beB_len _ _) hcells (by omega)).mono ?_)
        rintro e w4 ⟨rfl, hB4, hb4, hK4⟩
        have HBl4 := HBl3.out.trans hb4
        go_wp2_with fail
        go_roundw
        case rel => exact ⟨c + 1, rfl, by omega, by omega, HBl4, hidF (by rw [hE2.out]; exact hB4), hB4.lt⟩
        case measure => simp [natOf]; omega
      · have hE2 : Hid (encR ((l.take (c + 1).toNat).map toV) = E ++ [4] ++ escT t.data.toList ++ [0, 0]) := hidF (by rw [hE.out]; simp [encV, toV])
        obtain ⟨hn0, hf0, ht4⟩ := hk
        clear hE hxI hxU hn0 hf0
        have hel := escT_len t.data.toList
        rw [← Lib.size_eq] at hel
        go_wp2_with fail
        (with_reducible refine (writeByte_k w1.heap.size w1.heap.size E 4 _ (by simp) _ (bld_al HBd.out _) (by omega) (by simp; omega)).mono ?_)
        rintro e w2 ⟨rfl, hB2, hb2, hK2⟩
        have HX2 := hidF (BxH.keep (show BxH (wr.alloc (.cells #[.int .i64 4, .int .i64 n, .int .u64 f, .string t] 64)) wr.heap.size 4 n f t from heap_alloc_new wr _) hK2 hng)
        have HBd2 := hidF hB2
        have HBl2 := hidF ((HBl.out.alloc (by omega) _).trans hb2)
        have hs2 := hb2.size
        simp at hs2
        clear hB2 hb2 hK2
        obtain ⟨a0, a1, a2, a3⟩ := HX2.out.cells
        go_wp2_with fail
        (with_reducible refine (esc_c t _ (HT.out.below (hb1.trans (HBl2.out.mono hb1.size))) ht4).mono ?_)
        rintro e w3 ⟨rfl, hb3⟩
        have HBd3 := hidF (HBd2.out.bel hb3)
        have HBl3 := hidF (below_tr HBl2.out hb3 (by omega))
        have hs3 := hb3.size
        clear hb3 a0 a1 a2 a3
        go_wp2_with fail
        (with_reducible refine (writeString_f w1.heap.size w1.heap.size (E ++ [4]) (bs (escT t.data.toList)) _ HBd3.out (by rw [bs_size]; simp; omega) (by omega)).mono ?_)
        rintro e w4 ⟨rfl, hB4, hb4, hK4⟩
        have HBl4 := HBl3.out.trans hb4
        have hs4 := hb4.size
        go_wp2_with fail
        (with_reducible refine (writeString_f w1.heap.size w1.heap.size (E ++ [4] ++ escT t.data.toList) ⟨#[0, 0]⟩ _ hB4 (by rw [show (⟨#[0, 0]⟩ : ByteArray).size = 2 from rfl]; simp; omega) (by omega)).mono ?_)
        rintro e w5 ⟨rfl, hB5, hb5, hK5⟩
        have HBl5 := HBl4.trans hb5
        go_wp2_with fail
        go_roundw
        case rel => exact ⟨c + 1, rfl, by omega, by omega, HBl5, hidF (by rw [hE2.out]; exact hB5), hB5.lt⟩
        case measure => simp [natOf]; omega
      · have hE2 : Hid (encR ((l.take (c + 1).toNat).map toV) = E ++ [0]) := hidF (by rw [hE.out]; simp [encV, toV])
        clear hE hxI hxU hk
        go_wp2_with fail
        (with_reducible refine (writeByte_k w1.heap.size w1.heap.size E 0 _ (by simp) _ (bld_al HBd.out _) (by omega) (by simp; omega)).mono ?_)
        rintro e w2 ⟨rfl, hB2, hb2, hK2⟩
        have HX2 := hidF (BxH.keep (show BxH (wr.alloc (.cells #[.int .i64 0, .int .i64 n, .int .u64 f, .string t] 64)) wr.heap.size 0 n f t from heap_alloc_new wr _) hK2 hng)
        have HBd2 := hidF hB2
        have HBl2 := hidF ((HBl.out.alloc (by omega) _).trans hb2)
        have hs2 := hb2.size
        simp at hs2
        clear hB2 hb2 hK2
        obtain ⟨a0, a1, a2, a3⟩ := HX2.out.cells
        go_wp2_with fail
        go_roundw
        case rel => exact ⟨c + 1, rfl, by omega, by omega, HBl2.out, hidF (by rw [hE2.out]; exact HBd2.out), HBd2.out.lt⟩
        case measure => simp [natOf]; omega
    · have hce : c = l.length := by omega
      have hE2 : Hid (encR ((l.take c.toNat).map toV) = encR (l.map toV)) := hidF (by rw [List.take_of_length_le (by omega)])
      clear hce
      generalize encR ((l.take c.toNat).map toV) = E at *
      go_wp2_with (go_at_call 63; (with_reducible refine (string_b w1.heap.size w1.heap.size E _ HBd.out (by omega)).mono ?_); rintro e w4 ⟨rfl, hb4⟩)
      go_ret2
      refine ⟨by rw [hE2.out] <;> rfl, ?_⟩
      exact hb1.trans ((HBl.out.trans hb4).mono hb1.size)

end Go.Proofs.YthpkjkcfhipjhaaGreatDoor
