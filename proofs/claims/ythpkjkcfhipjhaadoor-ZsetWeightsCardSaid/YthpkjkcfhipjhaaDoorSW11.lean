/- a part of the claim: what the card leans on, out of the texts ZA7, XZS (put together by wip/tools/shake.py). -/
import Derived.Test.YthpkjkcfhipjhaaDoorSW10
section
namespace Go.Proofs.YthpkjkcfhipjhaaDoor
set_option linter.unusedVariables false
set_option linter.unusedSimpArgs false
open Go.RowKit Go.Proofs.YthpkjkcfhipjhaaDoorW.PrintWords Go.Proofs.YthpkjkcfhipjhaaDoorW.PrintLast PRW PZA
theorem weight1_c (x : S35) (A : Option Addr) (c : Nat) (B : Option Addr) (d : Nat) (r : List S56) (w : World) (hC : Kd.C k56 w A x.f0.length x.f0) (hR : Kd.C k56 w B r.length r) (hx : rngL x.f0 = true) (hr : rngL r = true) :
    Calls Tryd.prog 42 #[.agg #[.slice A x.f0.length c, .int .i64 x.f1], .slice B r.length d] w fun e w' => e = .returned (.int .i64 (cmpLS x.f0 r)) ∧ Below w.heap.size w w' := by
  have HH := hidF (fun W (hb : Below w.heap.size w W) => rowCompare_c A B c d x.f0 r W (Kd.C_below hC hb) (Kd.C_below hR hb) (rngL_I hx) (rngL_I hr))
  clear hC hR hx hr
  go_enter Tryd.func42, Tryd.ntmps42
  go_wp2_with (go_at_call 29; ((with_reducible refine (HH.out _ (by repeat (first | (with_reducible exact Below.refl _ _) | (with_reducible refine below_al ?_ _) | (with_reducible refine below_drewN ?_ _) | (with_reducible refine Below.drew ?_) | (with_reducible refine below_via (by assumption) ?_) | (with_reducible refine below_sc ?_ ?_ _; · (first | (simp; done) | (simp; omega) | omega))))).mono ?_); rintro e w1 ⟨rfl, hb⟩))
  go_ret
  exact ⟨rfl, (by repeat (first | (with_reducible exact Below.refl _ _) | (with_reducible refine below_al ?_ _) | (with_reducible refine below_drewN ?_ _) | (with_reducible refine Below.drew ?_) | (with_reducible refine below_via (by assumption) ?_) | (with_reducible refine below_sc ?_ ?_ _; · (first | (simp; done) | (simp; omega) | omega))))⟩
theorem enter_weight1 : ∀ args w, (callFunc 42 args).run Tryd.prog w = .ok (.enter 42 args) w := by
  intro args w
  simp [go_sem, Tryd.func42]
/-- what a search tells -/
def BsOut (l : List S35) (r : List S56) (w : World) (e : Ending) (w' : World) : Prop :=
  ∃ (i : Nat) (b : Bool), e = .returned (.tuple #[.int .i64 i, .bool b]) ∧ (b = true → ∃ x, l[i]? = some x ∧ cT x.f0 r = 0) ∧ (b = false → has cT (l.map prE) r = false) ∧ Below w.heap.size w w'
theorem bs_end {l : List S35} {r : List S56} (hz : Zst cT (l.map prE)) {i : Nat} (hi : i ≤ l.length) (lo : 0 < i → cT (rd_T35 l ((i - 1 : Nat) : Int)).f0 r < 0) (hn : i < l.length → 0 < cT (rd_T35 l (i : Int)).f0 r) : has cT (l.map prE) r = false := by
  rw [Bool.eq_false_iff]
  intro h
  obtain ⟨y, hy, e⟩ := (has_iff cT _ _).1 h
  obtain ⟨x, hx, rfl⟩ := List.mem_map.1 hy
  obtain ⟨j, hj, rfl⟩ := List.mem_iff_getElem.1 hx
  have e2 : cT l[j].f0 r = 0 := cT_ord.eq_symm e
  rw [Zst, List.pairwise_map, List.pairwise_iff_getElem] at hz
  rcases Nat.lt_trichotomy j i with h1 | h1 | h1
  · have hi1 : i - 1 < l.length := by omega
    have h2 := lo (by omega)
    rw [rd_atE l (i - 1) hi1] at h2
    by_cases h3 : j = i - 1
    · subst h3; omega
    · have h4 : cT l[j].f0 l[i - 1].f0 < 0 := hz j (i - 1) hj hi1 (by omega)
      have := cT_ord.lt_tr h4 (by omega : cT l[i - 1].f0 r ≤ 0)
      omega
  · subst h1
    have := hn hj
    rw [rd_atE l j hj] at this
    omega
  · have hi1 : i < l.length := by omega
    have h2 := hn hi1
    rw [rd_atE l i hi1] at h2
    have h4 : cT l[i].f0 l[j].f0 < 0 := hz i j hi1 hj h1
    have := cT_ord.lt_tr h4 (by omega : cT l[j].f0 r ≤ 0)
    omega
set_option maxRecDepth 100000 in
set_option maxHeartbeats 8000000 in
theorem bsf_c (A0 : Option Addr) (c0 : Nat) (l : List S35) (B : Option Addr) (d : Nat) (r : List S56) (w : World) (hr : Kd.C k35 w A0 l.length l) (hB : Kd.C k56 w B r.length r) (hl : l.length ≤ 1000000)
    (hI : ∀ x ∈ l, okR x.f0 = true) (hro : okR r = true) (hz : Zst cT (l.map prE)) :
    Calls Tryd.prog 41 #[.slice A0 l.length c0, .slice B r.length d, .func (.func 42) #[] #[]] w (BsOut l r w) := by
  have HR := hidF hr
  have HI := hidF hI
  have HZ := hidF hz
  have HC : Hid (∀ (c : Int), 0 ≤ c → c < l.length → ∀ W, Below w.heap.size w W → ∀ A1 c1, Kd.C k56 w A1 (rd_T35 l c).f0.length (rd_T35 l c).f0 → Calls Tryd.prog 42 #[.agg #[.slice A1 (rd_T35 l c).f0.length c1, .int .i64 (rd_T35 l c).f1], .slice B r.length d] W fun e w' => e = .returned (.int .i64 (cT (rd_T35 l c).f0 r)) ∧ Below W.heap.size W w') := hidF fun c h0 h1 W hb A1 c1 hC => by
    have hx := hI _ (rd_memE l c h0 h1)
    have := weight1_c (rd_T35 l c) A1 c1 B d r W (Kd.C_below hC hb) (Kd.C_below hB hb) (okR_iff.1 hx).2 (okR_iff.1 hro).2
    rwa [cT_ls hx hro] at this
  clear hr hI hB hro hz
  have hu := Tryd.underlying35
  have eg := enter_weight1
  have HWR := hidF (Below.refl w.heap.size w)
  go_enter Tryd.func41, Tryd.ntmps41
  go_wp2
  go_loopw [9, 10] (fun v9 v10 wr => ∃ (i j : Nat), v9 = Value.int .i64 i ∧ v10 = Value.int .i64 j ∧ i ≤ j ∧ j ≤ l.length ∧ Hid (Below w.heap.size w wr) ∧ Hid (0 < i → cT (rd_T35 l ((i - 1 : Nat) : Int)).f0 r < 0) ∧ Hid (j < l.length → 0 ≤ cT (rd_T35 l (j : Int)).f0 r)) (fun v9 v10 _ => natOf v10 - natOf v9)
  case atStart => exact ⟨0, l.length, rfl, rfl, by omega, by omega, HWR, hidF (fun h => by omega), hidF (fun h => by omega)⟩
  case round =>
    obtain ⟨i, j, rfl, rfl, hij, hjl, HB, HL, HH⟩ := hrel
    by_cases hlt : i < j
    · have hd : decide ((i : Int) < (j : Int)) = true := decide_eq_true (by omega)
      have g0 : (i : Int) < (j : Int) := by omega
      obtain ⟨ij, hsum⟩ : ∃ s, i + j = s := ⟨_, rfl⟩
      obtain ⟨c, hc⟩ : ∃ c, ij / 2 = c := ⟨_, rfl⟩
      have v1 : IntKind.i64.wrap ((i : Int) + (j : Int)) = (ij : Int) := by rw [IntKind.wrap_i64]; omega
      have v2 : IntKind.u64.wrap (ij : Int) = (ij : Int) := by rw [IntKind.wrap_u64]; omega
      have v3 : (ij : Int) / 2 = (c : Int) := by omega
      have v4 : IntKind.i64.wrap (c : Int) = (c : Int) := by rw [IntKind.wrap_i64]; omega
      have v5 : IntKind.u64.wrap (c : Int) = (c : Int) := by rw [IntKind.wrap_u64]; omega
      have v6 : IntKind.i64.wrap ((c : Int) + 1) = ((c + 1 : Nat) : Int) := by rw [IntKind.wrap_i64]; omega
      have c1 : c < l.length := by omega
      have hcj : c < j := by omega
      have hic : i ≤ c := by omega
      have c2 : (c : Int) < (l.length : Int) := by omega
      have c3 : 0 ≤ (c : Int) := by omega
      obtain ⟨ad, A1, d1, e, h0, h1, hl1, hC1⟩ := at_T35 HR.out (c : Int) c3 c2
      cases e
      have CS := hidF (HC.out (c : Int) c3 c2 wr HB.out A1 d1 hC1)
      rw [Int.toNat_natCast] at h0 h1
      replace h0 := (HB.out.cell (World.block_lt_of_cell? w _ h0)).trans h0
      replace h1 := (HB.out.cell (World.block_lt_of_cell? w _ h1)).trans h1
      clear hC1 hsum hc
      obtain ⟨q, hq⟩ : ∃ q, cT (rd_T35 l (c : Int)).f0 r = q := ⟨_, rfl⟩
      rw [hq] at CS
      have HQ := hidF hq
      clear hq
      by_cases hq0 : q < 0
      · have hqd : decide (q < 0) = true := decide_eq_true hq0
        go_wp2_with (go_at_fn 42; ((with_reducible refine CS.out.mono ?_); rintro e w1 ⟨rfl, hb⟩; have HB1 := hidF (HB.out.trans (hb.mono HB.out.size)); clear hb))
        go_roundw
        case rel => exact ⟨c + 1, j, rfl, rfl, by omega, hjl, HB1, hidF (fun _ => by rw [Nat.add_sub_cancel, HQ.out]; exact hq0), HH⟩
        case measure => simp [natOf]; omega
      · have hqd : decide (q < 0) = false := decide_eq_false hq0
        go_wp2_with (go_at_fn 42; ((with_reducible refine CS.out.mono ?_); rintro e w1 ⟨rfl, hb⟩; have HB1 := hidF (HB.out.trans (hb.mono HB.out.size)); clear hb))
        go_roundw
        case rel => exact ⟨i, c, rfl, rfl, hic, by omega, HB1, HL, hidF (fun _ => by rw [HQ.out]; omega)⟩
        case measure => simp [natOf]; omega
    · obtain rfl : i = j := by omega
      have hd : decide ((i : Int) < (i : Int)) = false := decide_eq_false (by omega)
      by_cases hin : i < l.length
      · have hd2 : decide ((i : Int) < (l.length : Int)) = true := decide_eq_true (by omega)
        have hd3 : decide (i < l.length) = true := decide_eq_true hin
        have c2 : (i : Int) < (l.length : Int) := by omega
        have c3 : 0 ≤ (i : Int) := by omega
        obtain ⟨ad, A1, d1, e, h0, h1, hl1, hC1⟩ := at_T35 HR.out (i : Int) c3 c2
        cases e
        have CS := hidF (HC.out (i : Int) c3 c2 wr HB.out A1 d1 hC1)
        rw [Int.toNat_natCast] at h0 h1
        replace h0 := (HB.out.cell (World.block_lt_of_cell? w _ h0)).trans h0
        replace h1 := (HB.out.cell (World.block_lt_of_cell? w _ h1)).trans h1
        clear hC1
        obtain ⟨q, hq⟩ : ∃ q, cT (rd_T35 l (i : Int)).f0 r = q := ⟨_, rfl⟩
        rw [hq] at CS
        have HQ := hidF hq
        clear hq
        by_cases hq0 : q = 0
        · have hqd : (q == 0) = true := by rw [hq0]; rfl
          have hqd2 : decide (q = 0) = true := decide_eq_true hq0
          have HF : Hid (BsOut l r w (.returned (.tuple #[.int .i64 i, .bool true])) w) := hidF ⟨i, true, rfl, fun _ => ⟨l[i], List.getElem?_eq_getElem hin, by rw [← rd_atE l i hin, HQ.out]; exact hq0⟩, (fun h => by cases h), Below.refl _ _⟩
          clear hq0
          go_wp2_with (go_at_fn 42; ((with_reducible refine CS.out.mono ?_); rintro e w1 ⟨rfl, hb⟩; have HB1 := hidF (HB.out.trans (hb.mono HB.out.size)); clear hb))
          go_ret2
          obtain ⟨i', b', e1, e2, e3, _⟩ := HF.out
          exact ⟨i', b', e1, e2, e3, HB1.out⟩
        · have hqd : (q == 0) = false := beq_eq_false_iff_ne.2 hq0
          have hqd2 : decide (q = 0) = false := decide_eq_false hq0
          have HF : Hid (BsOut l r w (.returned (.tuple #[.int .i64 i, .bool false])) w) := hidF ⟨i, false, rfl, (fun h => by cases h), fun _ => bs_end HZ.out (by omega) HL.out (fun h => by have := HH.out h; rw [HQ.out] at this ⊢; omega), Below.refl _ _⟩
          clear hq0
          go_wp2_with (go_at_fn 42; ((with_reducible refine CS.out.mono ?_); rintro e w1 ⟨rfl, hb⟩; have HB1 := hidF (HB.out.trans (hb.mono HB.out.size)); clear hb))
          go_ret2
          obtain ⟨i', b', e1, e2, e3, _⟩ := HF.out
          exact ⟨i', b', e1, e2, e3, HB1.out⟩
      · have hd2 : decide ((i : Int) < (l.length : Int)) = false := decide_eq_false (by omega)
        have hd3 : decide (i < l.length) = false := decide_eq_false hin
        have HF : Hid (BsOut l r w (.returned (.tuple #[.int .i64 i, .bool false])) w) := hidF ⟨i, false, rfl, (fun h => by cases h), fun _ => bs_end HZ.out (by omega) HL.out (fun h => absurd h hin), Below.refl _ _⟩
        go_wp2
        go_ret2
        obtain ⟨i', b', e1, e2, e3, _⟩ := HF.out
        exact ⟨i', b', e1, e2, e3, HB.out⟩
/-- a row's weight -/
def weightP (l : List S35) (r : List S56) : Int := if soundZ l && soundL r then wt cT (l.map prE) r else 0
set_option maxRecDepth 100000 in
set_option maxHeartbeats 8000000 in
theorem weight_z (A0 : Option Addr) (c0 : Nat) (l : List S35) (B : Option Addr) (d : Nat) (r : List S56) (w : World) (hr0 : Kd.C k35 w A0 l.length l) (hc0 : l.length ≤ c0) (hr1 : Kd.C k56 w B r.length r) (hc1 : r.length ≤ d)
    (h0 : ∀ x ∈ l, rngL x.f0 = true) (h1 : rngL r = true) (hl : l.length ≤ 1000000) :
    Calls Tryd.prog 17 #[.slice A0 l.length c0, .slice B r.length d] w fun e w' => e = .returned (.int .i64 (weightP l r)) ∧ Below w.heap.size w w' := by
  have S0 := hidF (zSound_c A0 c0 l w hr0 hc0 h0 hl)
  have S1 := hidF (fun W (hb : Below w.heap.size w W) => rowSound_c B d r W (Kd.C_below hr1 hb) (rngL_I h1))
  have HR := hidF hr0
  cases s0 : soundZ l
  · have HA : Hid (weightP l r = 0) := hidF (by unfold weightP; rw [s0]; rfl)
    rw [s0] at S0
    clear s0 hr0 hr1 h0 h1
    go_enter Tryd.func17, Tryd.ntmps17
    go_wp2_with (go_at_call 11; ((with_reducible refine S0.out.mono ?_); rintro e w1 ⟨rfl, hb⟩))
    go_ret
    exact ⟨by rw [HA.out] <;> rfl, hb⟩
  · cases s1 : soundL r
    · have HA : Hid (weightP l r = 0) := hidF (by unfold weightP; rw [s0, s1]; rfl)
      rw [s0] at S0
      rw [s1] at S1
      clear s0 s1 hr0 hr1 h0 h1
      go_enter Tryd.func17, Tryd.ntmps17
      go_wp2_with (first | (go_at_call 11; ((with_reducible refine S0.out.mono ?_); rintro e w1 ⟨rfl, hb⟩; have HB1 := hidF hb; clear hb)) | (go_at_call 28; ((with_reducible refine (S1.out _ HB1.out).mono ?_); rintro e w2 ⟨rfl, hb⟩; have HB2 := hidF (HB1.out.trans (hb.mono HB1.out.size)); clear hb)))
      go_ret
      exact ⟨by rw [HA.out] <;> rfl, HB2.out⟩
    · obtain ⟨g1, g2⟩ := (soundZ_iff l h0).1 s0
      have HZ := hidF g2
      have HA : Hid (weightP l r = wt cT (l.map prE) r) := hidF (by unfold weightP; rw [s0, s1]; rfl)
      have BSF := hidF (fun W (hb : Below w.heap.size w W) => bsf_c A0 c0 l B d r W (Kd.C_below hr0 hb) (Kd.C_below hr1 hb) hl (fun x hx => okR_iff.2 ⟨by have := (g1 x hx).2; unfold okE at this; simp at this; exact this.2, h0 x hx⟩) (okR_iff.2 ⟨s1, h1⟩) g2)
      rw [s0] at S0
      rw [s1] at S1
      clear s0 s1 hr0 hr1 h0 h1 g1 g2
      go_enter Tryd.func17, Tryd.ntmps17
      go_wp2_with (first | (go_at_call 11; ((with_reducible refine S0.out.mono ?_); rintro e w1 ⟨rfl, hb⟩; have HB1 := hidF hb; clear hb)) | (go_at_call 28; ((with_reducible refine (S1.out _ HB1.out).mono ?_); rintro e w2 ⟨rfl, hb⟩; have HB2 := hidF (HB1.out.trans (hb.mono HB1.out.size)); clear hb)))
      (with_reducible refine (BSF.out _ HB2.out).mono ?_)
      rintro e w3 ⟨i, b, rfl, ht, hf, hb⟩
      have HT := hidF ht
      have HF := hidF hf
      have HB3 := hidF (HB2.out.trans (hb.mono HB2.out.size))
      clear ht hf hb
      cases b
      · have HV : Hid (weightP l r = 0) := hidF (by rw [HA.out]; exact wt_none cT _ _ (HF.out rfl))
        go_wp2
        go_ret
        exact ⟨by rw [HV.out] <;> rfl, HB3.out⟩
      · obtain ⟨x, hx, hxr⟩ := HT.out rfl
        obtain ⟨hil, hxe⟩ := List.getElem?_eq_some_iff.1 hx
        have HV : Hid (weightP l r = (rd_T35 l (i : Int)).f1) := hidF (by
          rw [HA.out, ← wt_cong cT_ord hxr, rd_atE l i hil, hxe]
          exact HZ.out.wt_mem cT_ord (prE x) (List.mem_map_of_mem (by rw [← hxe]; exact List.getElem_mem hil)))
        have c2 : (i : Int) < (l.length : Int) := by omega
        have c3 : 0 ≤ (i : Int) := by omega
        obtain ⟨ad, A1, d1, e, k0, k1, hl1, hC1⟩ := at_T35 HR.out (i : Int) c3 c2
        cases e
        rw [Int.toNat_natCast] at k1
        replace k1 := (HB3.out.cell (World.block_lt_of_cell? w _ k1)).trans k1
        clear hC1 k0 hx hxr hxe
        go_wp2
        go_ret
        exact ⟨by rw [HV.out] <;> rfl, HB3.out⟩
end Go.Proofs.YthpkjkcfhipjhaaDoor
end
section
namespace Go.Proofs.YthpkjkcfhipjhaaDoor
set_option linter.unusedVariables false
set_option linter.unusedSimpArgs false
open Go.RowKit Go.Proofs.YthpkjkcfhipjhaaDoorW.PrintWords Go.Proofs.YthpkjkcfhipjhaaDoorW.PrintLast PRW PZA
def xCloneRow.f (l : List S56) : Option (List S56) := if l.length ≤ 1000000 then some l else none
theorem xCloneRow.calls (A0 : Option Addr) (c0 : Nat) (l : List S56) (r : List S56) (w : World) (hr0 : Kd.C k56 w A0 l.length l) (hc0 : l.length ≤ c0) (h : xCloneRow.f l = some r) :
    Calls Tryd.prog 40 #[.slice A0 l.length c0] w fun e w' => ∃ v0_ : Value, e = .returned v0_ ∧ Kd.R k56 56 w' w.heap.size (fun _ => True) v0_ r ∧ Below w.heap.size w w' := by
  obtain ⟨hl, rfl⟩ := ext_of h
  exact cloneRow_c A0 c0 l w hr0 hl
def xZSound.f (l : List S35) : Option Bool := if rngE l = true ∧ l.length ≤ 1000000 then some (soundZ l) else none
theorem xZSound.calls (A0 : Option Addr) (c0 : Nat) (l : List S35) (r : Bool) (w : World) (hr0 : Kd.C k35 w A0 l.length l) (hc0 : l.length ≤ c0) (h : xZSound.f l = some r) :
    Calls Tryd.prog 11 #[.slice A0 l.length c0] w fun e w' => e = .returned (.bool r) ∧ Below w.heap.size w w' := by
  obtain ⟨⟨hr, hl⟩, rfl⟩ := ext_of h
  exact zSound_c A0 c0 l w hr0 hc0 (fun x hx => (rngE_at hr x hx).1) hl
def xMake.f (l : List S35) : Option (List S35 × Int) := if rngE l = true ∧ l.length ≤ 1000000 then some (makeP l) else none
theorem xMake.calls (A0 : Option Addr) (c0 : Nat) (l : List S35) (r1 : List S35) (r2 : Int) (w : World) (hr0 : Kd.C k35 w A0 l.length l) (hc0 : l.length ≤ c0) (h : xMake.f l = some (r1, r2)) :
    Calls Tryd.prog 15 #[.slice A0 l.length c0] w fun e w' => ∃ v0_ : Value, e = .returned (.tuple #[v0_, .int .i64 r2]) ∧ Kd.R k35 35 w' w.heap.size (fun _ => True) v0_ r1 ∧ Below w.heap.size w w' := by
  obtain ⟨⟨hr, hl⟩, he⟩ := ext_of h
  refine (make_c A0 c0 l w hr0 hl (rngE_at hr)).mono ?_
  rintro e w' ⟨v0, h1, h2, h3⟩
  rw [he] at h1 h2
  exact ⟨v0, h1, h2, h3⟩
def xAdd.f (l m : List S35) : Option (List S35 × Int) := if (rngE l = true ∧ l.length ≤ 500000) ∧ (rngE m = true ∧ m.length ≤ 500000) then some (addP l m) else none
theorem xAdd.calls (A0 : Option Addr) (c0 : Nat) (l : List S35) (A1 : Option Addr) (c1 : Nat) (m : List S35) (r1 : List S35) (r2 : Int) (w : World) (hr0 : Kd.C k35 w A0 l.length l) (hc0 : l.length ≤ c0) (hr1 : Kd.C k35 w A1 m.length m) (hc1 : m.length ≤ c1) (h : xAdd.f l m = some (r1, r2)) :
    Calls Tryd.prog 12 #[.slice A0 l.length c0, .slice A1 m.length c1] w fun e w' => ∃ v0_ : Value, e = .returned (.tuple #[v0_, .int .i64 r2]) ∧ Kd.R k35 35 w' w.heap.size (fun _ => True) v0_ r1 ∧ Below w.heap.size w w' := by
  obtain ⟨⟨⟨hr, hl⟩, hs, hm⟩, he⟩ := ext_of h
  refine (add_z A0 c0 l A1 c1 m w hr0 hc0 hr1 hc1 (rngE_at hr) (rngE_at hs) hl hm).mono ?_
  rintro e w' ⟨v0, h1, h2, h3⟩
  rw [he] at h1 h2
  exact ⟨v0, h1, h2, h3⟩
def xWeight.f (l : List S35) (r : List S56) : Option Int := if (rngE l = true ∧ l.length ≤ 1000000) ∧ rngL r = true then some (weightP l r) else none
theorem xWeight.calls (A0 : Option Addr) (c0 : Nat) (l : List S35) (A1 : Option Addr) (c1 : Nat) (m : List S56) (r : Int) (w : World) (hr0 : Kd.C k35 w A0 l.length l) (hc0 : l.length ≤ c0) (hr1 : Kd.C k56 w A1 m.length m) (hc1 : m.length ≤ c1) (h : xWeight.f l m = some r) :
    Calls Tryd.prog 17 #[.slice A0 l.length c0, .slice A1 m.length c1] w fun e w' => e = .returned (.int .i64 r) ∧ Below w.heap.size w w' := by
  obtain ⟨⟨⟨hr, hl⟩, hm⟩, rfl⟩ := ext_of h
  exact weight_z A0 c0 l A1 c1 m w hr0 hc0 hr1 hc1 (fun x hx => (rngE_at hr x hx).1) hm hl
def xItoa.f (n : Int) : Option ByteArray := if -9223372036854775808 ≤ n ∧ n ≤ 9223372036854775807 then some ⟨(Lib.itoa n).toArray⟩ else none
theorem xItoa.calls (n : Int) (r : ByteArray) (w : World) (hT : RTab w) (h : xItoa.f n = some r) :
    Calls Tryd.prog 44 #[.int .i64 n] w fun e w' => e = .returned (.string r) ∧ Below w.heap.size w w' := by
  obtain ⟨⟨h0, h1⟩, rfl⟩ := ext_of h
  exact itoa_c n w ⟨h0, h1⟩ hT.pow
end Go.Proofs.YthpkjkcfhipjhaaDoor
end
