/- a part of the claim: what the card leans on, out of the texts ZW4, ZW5, ZW6, ZW7, ZW8, ZA1, ZA2, ZA3, ZP5, ZQ1, ZA4, ZA5, ZA6 (put together by wip/tools/shake.py). -/
import Derived.Test.YthpkjkcfhipjhaaDoorSW2
import Derived.Test.YthpkjkcfhipjhaaDoorSW7
import Derived.Test.YthpkjkcfhipjhaaDoorSW8
import Derived.Test.YthpkjkcfhipjhaaDoorSW9
import Derived.BigQuiet
import Derived.Deep.QuietTactic
import Derived.Laws.Externs
import Derived.Laws.BitsLemmas
import Derived.Lib.SliceRun
import Derived.Deep.RegionWith
import Derived.Lib.AppendZerosOnto
import Derived.Lib.Walk
section
namespace Go.Proofs.YthpkjkcfhipjhaaDoor
set_option linter.unusedVariables false
set_option linter.unusedSimpArgs false
open Go.RowKit Go.Proofs.YthpkjkcfhipjhaaDoorW.PrintWords Go.Proofs.YthpkjkcfhipjhaaDoorW.PrintLast PRW PZA
theorem zregion {P : Program} {C : World → Prop} {id : Nat} {Q : Exit → Act → World → Prop} {a : Act} {w : World} {l : List Oper} (hm : P.follows .mixedOrders = true) (hB : Region.lexB .any l.toArray = true) (hC : C { w with drawn := w.drawn + 1 })
    (h : wpQuiet P l.toArray C (fun a' => ∀ w', C w' → Q .normal a' w') l a) : (Code.region id l.toArray true).wp P Q a w :=
  wp_region_quiet hm hB hC (by simpa using h)
/-- byRow at entries as they lie -/
theorem byRow_c {w0 : World} (e f : Ent w0) (W : World) (h : Below w0.heap.size w0 W) :
    Calls Tryd.prog 32 #[.agg #[.slice e.A e.x.f0.length e.c, .int .i64 e.x.f1], .agg #[.slice f.A f.x.f0.length f.c, .int .i64 f.x.f1]] W fun r w' => r = .returned (.int .i64 (Ent.cf e f)) ∧ Below W.heap.size W w' :=
  PZA.zset_byRow.calls _ _ _ _ _ _ _ _ _ W (Kd.C_below e.lies h) e.le (Kd.C_below f.lies h) f.le (by
    unfold PZA.zset_byRow.f xRowCompare.f
    rw [if_pos ⟨e.rng, f.rng⟩]; rfl)
theorem byRow_s {w0 : World} {b : Nat} {ys : List (Ent w0)} (e f : Ent w0) (W : World) (h : SB w0 b ys W) :
    Calls Tryd.prog 32 #[.agg #[.slice e.A e.x.f0.length e.c, .int .i64 e.x.f1], .agg #[.slice f.A f.x.f0.length f.c, .int .i64 f.x.f1]] W fun r w' => r = .returned (.int .i64 (Ent.cf e f)) ∧ SB w0 b ys w' :=
  (byRow_c e f W h.bel).mono fun _ _ ⟨a, k⟩ => ⟨a, h.below k⟩
theorem enter_byRow : ∀ args w, (callFunc 32 args).run Tryd.prog w = .ok (.enter 32 args) w := by
  intro args w
  simp [go_sem, Tryd.func32]
abbrev byRowV : Value := .func (.func 32) #[] #[]
set_option maxRecDepth 1000000 in
set_option maxHeartbeats 8000000 in
theorem insSort_c {w0 : World} (b cap : Nat) (xs : List (Ent w0)) (w : World) (h : SB w0 b xs w) (a e : Nat) (hae : a ≤ e) (hl : e ≤ xs.length) (hs : xs.length ≤ 1000000) :
    Calls Tryd.prog 83 #[.slice (some ⟨b, 0, none⟩) xs.length cap, .int .i64 a, .int .i64 e, byRowV] w fun r w' => r = .returned (.tuple #[]) ∧ ∃ ys, SB w0 b ys w' ∧ Srt (leC Ent.cf) a e ys ∧ Moved a e xs ys := by
  have hu := Tryd.underlying35
  have eg := enter_byRow
  have HS := hidF h
  clear h
  have v0 : IntKind.i64.wrap ((a : Int) + 1) = ((a + 1 : Nat) : Int) := by rw [IntKind.wrap_i64]; omega
  go_enter Tryd.func83, Tryd.ntmps83
  go_wp2
  go_loopw [8] (fun v wr => ∃ (i : Nat) (ys : List (Ent w0)), v = Value.int .i64 i ∧ a < i ∧ i ≤ e + 1 ∧ SB w0 b ys wr ∧ Hid (Srt (leC Ent.cf) a (min i e) ys) ∧ Hid (Moved a e xs ys)) (fun v _ => e + 1 - natOf v)
  case atStart => exact ⟨a + 1, xs, rfl, by omega, by omega, HS.out, hidF (srt_one _ _ _ _ (by omega)), hidF (Moved.refl _ _ _)⟩
  case round =>
    obtain ⟨i, ys, rfl, hai, hie, HB, HR, HM⟩ := hrel
    have hlen := HM.out.len
    by_cases hlt : i < e
    · have hd : decide ((i : Int) < (e : Int)) = true := decide_eq_true (by omega)
      have HB2 := hidF HB
      clear HB
      go_wp2
      go_loopw [9] (fun v wr => ∃ (j : Nat) (zs : List (Ent w0)), v = Value.int .i64 j ∧ a ≤ j ∧ j ≤ i ∧ SB w0 b zs wr ∧ Hid (Ins (leC Ent.cf) a i j zs) ∧ Hid (Moved a e xs zs)) (fun v _ => natOf v)
      case atStart => exact ⟨i, ys, rfl, by omega, by omega, HB2.out, hidF (Ins.start (by have := HR.out; rwa [Nat.min_eq_left (by omega)] at this)), HM⟩
      case round =>
        obtain ⟨j, zs, rfl, haj, hji, HB, HI, HN⟩ := hrel
        have hlz := HN.out.len
        by_cases hja : a < j
        · obtain ⟨p, rfl⟩ : ∃ p, j = p + 1 := ⟨j - 1, by omega⟩
          obtain ⟨q, hq⟩ : ∃ q, p + 1 = q := ⟨_, rfl⟩
          rw [hq] at HI
          have hp1 : p < zs.length := by omega
          have hq1 : q < zs.length := by omega
          have g1 : decide ((q : Int) > (a : Int)) = true := decide_eq_true (by omega)
          have g1' : decide ((a : Int) < (q : Int)) = true := decide_eq_true (by omega)
          have g2 : (a : Int) < (q : Int) := by omega
          have g3 : (q : Int) < (xs.length : Int) := by omega
          have g4 : (p : Int) < (xs.length : Int) := by omega
          have v1 : IntKind.i64.wrap ((q : Int) - 1) = (p : Int) := by rw [IntKind.wrap_i64]; omega
          have b1 : q < xs.length := by omega
          have b2 : p < xs.length := by omega
          have hcast : ((p + 1 : Nat) : Int) = (q : Int) := by omega
          rw [hcast]
          have HM2 := hidF (HN.out.trans (Moved.swap (a := a) (b := e) zs q p (by omega) (by omega) (by omega) (by omega) (by omega)))
          obtain ⟨xq, hxq⟩ : ∃ x, gx zs q = x := ⟨_, rfl⟩
          obtain ⟨xp, hxp⟩ : ∃ x, gx zs p = x := ⟨_, rfl⟩
          by_cases hlt2 : Ent.cf xq xp < 0
          · have HI2 := hidF (Ins.step (j := p) (by rw [hq]; exact HI.out) (by omega) (by omega) (by omega) (by rw [hq, hxq, hxp]; show Ent.cf xq xp ≤ 0; omega))
            rw [hq] at HI2
            have hc : decide (Ent.cf xq xp < 0) = true := decide_eq_true hlt2
            have hC : SB w0 b zs { wr with drawn := wr.drawn + 1 } := HB.drew
            clear HB
            go_wp2_with fail
            refine zregion (C := SB w0 b zs) (by kernel_rfl) (by kernel_rfl) hC ?_
            clear hC
            repeat (first
              | go_big_quiet_skip
              | (go_big_quiet_want; first
                  | (go_big_quiet_op; go_big_quiet_on)
                  | (apply Exists.intro
                     refine ⟨fun w' hw' => ?_, ?_⟩
                     · (have HC := Lib.hid hw'
                        have i0 := hw'.c0 q hq1
                        have i1 := hw'.c1 q hq1
                        have j0 := hw'.c0 p hp1
                        have j1 := hw'.c1 p hp1
                        rw [hxq] at i0 i1
                        rw [hxp] at j0 j1
                        clear hw'
                        go_simp
                        first
                          | exact rfl
                          | ((with_reducible refine (byRow_s _ _ _ HC.out).mono ?_); rintro e w'' ⟨rfl, hb⟩; exact ⟨rfl, hb⟩))
                     go_simp
                     go_big_quiet_on)))
            refine wpQuiet_nil ?_
            intro w' hw'
            have i0 := hw'.c0 q hq1
            have i1 := hw'.c1 q hq1
            have j0 := hw'.c0 p hp1
            have j1 := hw'.c1 p hp1
            have f0 := hw'.fr
            have HSW := hidF (hw'.swap q p hq1 hp1)
            rw [hxq] at i0 i1 HSW
            rw [hxp] at j0 j1 HSW
            clear hw'
            go_wp2_with fail
            go_region
            all_goals go_wp2
            go_roundw
            case rel => exact ⟨p, swp zs q p, rfl, by omega, by omega, HSW.out.drew, HI2, HM2⟩
            case measure => simp [natOf]; omega
          · have hc : decide (Ent.cf xq xp < 0) = false := decide_eq_false hlt2
            have HD := hidF (Ins.done ent_ord.tr HI.out (.inr ⟨by omega, by rw [show q - 1 = p by omega, hxq, hxp]; exact ent_ord.le_of hlt2⟩))
            have hC : SB w0 b zs { wr with drawn := wr.drawn + 1 } := HB.drew
            have v5 : IntKind.i64.wrap ((i : Int) + 1) = ((i + 1 : Nat) : Int) := by rw [IntKind.wrap_i64]; omega
            clear HB
            go_wp2_with fail
            refine zregion (C := SB w0 b zs) (by kernel_rfl) (by kernel_rfl) hC ?_
            clear hC
            repeat (first
              | go_big_quiet_skip
              | (go_big_quiet_want; first
                  | (go_big_quiet_op; go_big_quiet_on)
                  | (apply Exists.intro
                     refine ⟨fun w' hw' => ?_, ?_⟩
                     · (have HC := Lib.hid hw'
                        have i0 := hw'.c0 q hq1
                        have i1 := hw'.c1 q hq1
                        have j0 := hw'.c0 p hp1
                        have j1 := hw'.c1 p hp1
                        rw [hxq] at i0 i1
                        rw [hxp] at j0 j1
                        clear hw'
                        go_simp
                        first
                          | exact rfl
                          | ((with_reducible refine (byRow_s _ _ _ HC.out).mono ?_); rintro e w'' ⟨rfl, hb⟩; exact ⟨rfl, hb⟩))
                     go_simp
                     go_big_quiet_on)))
            refine wpQuiet_nil ?_
            intro w' hw'
            go_wp2
            go_roundw
            case rel => exact ⟨i + 1, zs, rfl, by omega, by omega, hw', by rw [Nat.min_eq_left (by omega)]; exact HD, HN⟩
            case measure => simp [natOf]; omega
        · have g1 : decide ((j : Int) > (a : Int)) = false := decide_eq_false (by omega)
          have g1' : decide ((a : Int) < (j : Int)) = false := decide_eq_false (by omega)
          have g2 : ¬ (a : Int) < (j : Int) := by omega
          have HD := hidF (Ins.done ent_ord.tr HI.out (.inl (by omega)))
          have hC : SB w0 b zs { wr with drawn := wr.drawn + 1 } := HB.drew
          have v5 : IntKind.i64.wrap ((i : Int) + 1) = ((i + 1 : Nat) : Int) := by rw [IntKind.wrap_i64]; omega
          clear HB
          go_wp2_with fail
          refine zregion (C := SB w0 b zs) (by kernel_rfl) (by kernel_rfl) hC ?_
          clear hC
          repeat (first
            | go_big_quiet_skip
            | (go_big_quiet_want; first
                | (go_big_quiet_op; go_big_quiet_on)
                | (apply Exists.intro
                   refine ⟨fun w' hw' => ?_, ?_⟩
                   · (have HC := Lib.hid hw'
                      clear hw'
                      go_simp
                      exact rfl)
                   go_simp
                   go_big_quiet_on)))
          refine wpQuiet_nil ?_
          intro w' hw'
          go_wp2
          go_roundw
          case rel => exact ⟨i + 1, zs, rfl, by omega, by omega, hw', by rw [Nat.min_eq_left (by omega)]; exact HD, HN⟩
          case measure => simp [natOf]; omega
    · have hce : e ≤ i := by omega
      have hd : decide ((i : Int) < (e : Int)) = false := decide_eq_false (by omega)
      go_wp2
      go_end0
      exact ⟨rfl, ys, HB, by have := HR.out; rwa [Nat.min_eq_right hce] at this, HM.out⟩
end Go.Proofs.YthpkjkcfhipjhaaDoor
end
section
namespace Go.Proofs.YthpkjkcfhipjhaaDoor
set_option linter.unusedVariables false
set_option linter.unusedSimpArgs false
open Go.RowKit Go.Proofs.YthpkjkcfhipjhaaDoorW.PrintWords Go.Proofs.YthpkjkcfhipjhaaDoorW.PrintLast PRW PZA
set_option maxRecDepth 1000000 in
set_option maxHeartbeats 8000000 in
theorem sym1_c {w0 : World} (b cap : Nat) (xs : List (Ent w0)) (w : World) (h : SB w0 b xs w) (a m e : Nat) (ham : a + 1 = m) (hme : m < e) (hl : e ≤ xs.length) (hs : xs.length ≤ 1000000) (h2 : Srt (leC Ent.cf) m e xs) :
    Calls Tryd.prog 84 #[.slice (some ⟨b, 0, none⟩) xs.length cap, .int .i64 a, .int .i64 m, .int .i64 e, byRowV] w fun r w' => r = .returned (.tuple #[]) ∧ ∃ ys, SB w0 b ys w' ∧ Srt (leC Ent.cf) a e ys ∧ Moved a e xs ys := by
  have hu := Tryd.underlying35
  have eg := enter_byRow
  have HS := hidF h
  have H2 := hidF h2
  clear h h2
  have v0 : IntKind.i64.wrap ((m : Int) - (a : Int)) = 1 := by rw [IntKind.wrap_i64]; omega
  have ha : a < xs.length := by omega
  have haI : (a : Int) < (xs.length : Int) := by omega
  obtain ⟨xa, hxa⟩ : ∃ x, gx xs a = x := ⟨_, rfl⟩
  go_enter Tryd.func84, Tryd.ntmps84
  go_wp2
  go_loopw [10, 11] (fun v10 v11 wr => ∃ (i j : Nat), v10 = Value.int .i64 i ∧ v11 = Value.int .i64 j ∧ SB w0 b xs wr ∧ Hid (BS m e i j (fun c => Ent.cf (gx xs c) (gx xs a) < 0))) (fun v10 v11 _ => natOf v11 - natOf v10)
  case atStart => exact ⟨m, e, rfl, rfl, HS.out, hidF (BS.start (by omega))⟩
  case round =>
    obtain ⟨i, j, rfl, rfl, HB, HP⟩ := hrel
    have p0 := HP.out.h0
    have p1 := HP.out.h1
    have p2 := HP.out.h2
    by_cases hij : i < j
    · have hd : decide ((i : Int) < (j : Int)) = true := decide_eq_true (by omega)
      have g0 : (i : Int) < (j : Int) := by omega
      obtain ⟨ij, hsum⟩ : ∃ s, i + j = s := ⟨_, rfl⟩
      obtain ⟨c, hc⟩ : ∃ c, ij / 2 = c := ⟨_, rfl⟩
      have v1 : IntKind.i64.wrap ((i : Int) + (j : Int)) = (ij : Int) := by rw [IntKind.wrap_i64]; omega
      have v2 : IntKind.u64.wrap (ij : Int) = (ij : Int) := by rw [IntKind.wrap_u64]; omega
      have v3 : (ij : Int) / 2 = (c : Int) := by omega
      have v4 : IntKind.i64.wrap (c : Int) = (c : Int) := by rw [IntKind.wrap_i64]; omega
      have v5 : IntKind.u64.wrap (c : Int) = (c : Int) := by rw [IntKind.wrap_u64]; omega
      have v6 : IntKind.i64.wrap ((c : Int) + 1) = ((c + 1 : Nat) : Int) := by rw [IntKind.wrap_i64]; omega
      have c1 : c < xs.length := by omega
      have c2 : (c : Int) < (xs.length : Int) := by omega
      obtain ⟨xc, hxc⟩ : ∃ x, gx xs c = x := ⟨_, rfl⟩
      have hC : SB w0 b xs { wr with drawn := wr.drawn + 1 } := HB.drew
      clear HB
      by_cases hlt : Ent.cf xc xa < 0
      · have HP2 := hidF (HP.out.up (c := c) (by omega) (by omega) (by show Ent.cf (gx xs c) (gx xs a) < 0; rw [hxc, hxa]; exact hlt))
        have hcd : decide (Ent.cf xc xa < 0) = true := decide_eq_true hlt
        clear p0 p1 p2
        go_wp2_with fail
        refine zregion (C := SB w0 b xs) (by kernel_rfl) (by kernel_rfl) hC ?_
        clear hC
        repeat (first
          | go_big_quiet_skip
          | (go_big_quiet_want; first
              | (go_big_quiet_op; go_big_quiet_on)
              | (apply Exists.intro
                 refine ⟨fun w' hw' => ?_, ?_⟩
                 · (have HC := Lib.hid hw'
                    have i0 := hw'.c0 c c1
                    have i1 := hw'.c1 c c1
                    have j0 := hw'.c0 a ha
                    have j1 := hw'.c1 a ha
                    rw [hxc] at i0 i1
                    rw [hxa] at j0 j1
                    clear hw'
                    go_simp
                    first
                      | exact rfl
                      | ((with_reducible refine (byRow_s _ _ _ HC.out).mono ?_); rintro e w'' ⟨rfl, hb⟩; exact ⟨rfl, hb⟩))
                 go_simp
                 go_big_quiet_on)))
        refine wpQuiet_nil ?_
        intro w' hw'
        go_wp2
        go_roundw
        case rel => exact ⟨c + 1, j, rfl, rfl, hw', HP2⟩
        case measure => simp [natOf]; omega
      · have HP2 := hidF (HP.out.down (c := c) (by omega) (by omega) (by show ¬ Ent.cf (gx xs c) (gx xs a) < 0; rw [hxc, hxa]; exact hlt))
        have hcd : decide (Ent.cf xc xa < 0) = false := decide_eq_false hlt
        clear p0 p1 p2
        go_wp2_with fail
        refine zregion (C := SB w0 b xs) (by kernel_rfl) (by kernel_rfl) hC ?_
        clear hC
        repeat (first
          | go_big_quiet_skip
          | (go_big_quiet_want; first
              | (go_big_quiet_op; go_big_quiet_on)
              | (apply Exists.intro
                 refine ⟨fun w' hw' => ?_, ?_⟩
                 · (have HC := Lib.hid hw'
                    have i0 := hw'.c0 c c1
                    have i1 := hw'.c1 c c1
                    have j0 := hw'.c0 a ha
                    have j1 := hw'.c1 a ha
                    rw [hxc] at i0 i1
                    rw [hxa] at j0 j1
                    clear hw'
                    go_simp
                    first
                      | exact rfl
                      | ((with_reducible refine (byRow_s _ _ _ HC.out).mono ?_); rintro e w'' ⟨rfl, hb⟩; exact ⟨rfl, hb⟩))
                 go_simp
                 go_big_quiet_on)))
        refine wpQuiet_nil ?_
        intro w' hw'
        go_wp2
        go_roundw
        case rel => exact ⟨i, c, rfl, rfl, hw', HP2⟩
        case measure => simp [natOf]; omega
    · have hd : decide ((i : Int) < (j : Int)) = false := decide_eq_false (by omega)
      have g0 : ¬ (i : Int) < (j : Int) := by omega
      have HQ := hidF (⟨HP.out.lo, by have := HP.out.hi; rwa [show j = i by omega] at this⟩ : (m < i → Ent.cf (gx xs (i - 1)) (gx xs a) < 0) ∧ (i < e → ¬ Ent.cf (gx xs i) (gx xs a) < 0))
      have v1 : IntKind.i64.wrap ((i : Int) - 1) = ((i - 1 : Nat) : Int) := by rw [IntKind.wrap_i64]; omega
      have HB2 := hidF HB
      clear HB
      go_wp2
      go_loopw [13] (fun v wr => ∃ (k : Nat) (ys : List (Ent w0)), v = Value.int .i64 k ∧ a ≤ k ∧ k ≤ i - 1 ∧ SB w0 b ys wr ∧ Hid (UpTo a k xs ys) ∧ Hid (Moved a e xs ys)) (fun v _ => i - natOf v)
      case atStart => exact ⟨a, xs, rfl, by omega, by omega, HB2.out, hidF (UpTo.start _ _), hidF (Moved.refl _ _ _)⟩
      case round =>
        obtain ⟨k, ys, rfl, hak, hki, HB, HU, HM⟩ := hrel
        have hlen := HM.out.len
        by_cases hk : k < i - 1
        · have hd2 : decide ((k : Int) < ((i - 1 : Nat) : Int)) = true := decide_eq_true (by omega)
          have g2 : (k : Int) < ((i - 1 : Nat) : Int) := by omega
          obtain ⟨q, hq⟩ : ∃ q, k + 1 = q := ⟨_, rfl⟩
          have v2 : IntKind.i64.wrap ((k : Int) + 1) = (q : Int) := by rw [IntKind.wrap_i64]; omega
          have hk1 : k < ys.length := by omega
          have hq1 : q < ys.length := by omega
          have b1 : k < xs.length := by omega
          have b2 : q < xs.length := by omega
          have b3 : (k : Int) < (xs.length : Int) := by omega
          have b4 : (q : Int) < (xs.length : Int) := by omega
          have HU2 := hidF (HU.out.step hak (by rw [hq]; exact hq1))
          have HM2 := hidF (HM.out.trans (Moved.swap (a := a) (b := e) ys k q (by omega) (by omega) (by omega) (by omega) (by omega)))
          rw [hq] at HU2
          have HSW := hidF (HB.swap k q hk1 hq1)
          have i0 := HB.c0 _ hk1
          have i1 := HB.c1 _ hk1
          have j0 := HB.c0 _ hq1
          have j1 := HB.c1 _ hq1
          have f0 := HB.fr
          generalize hgi : gx ys k = ei at *
          generalize hgj : gx ys q = ej at *
          clear HB
          go_wp2_with fail
          go_region
          all_goals go_wp2
          go_roundw
          case rel => exact ⟨q, swp ys k q, rfl, by omega, by omega, HSW.out.drew, HU2, HM2⟩
          case measure => simp [natOf]; omega
        · have hd2 : decide ((k : Int) < ((i - 1 : Nat) : Int)) = false := decide_eq_false (by omega)
          have g2 : ¬ (k : Int) < ((i - 1 : Nat) : Int) := by omega
          have hke : k = i - 1 := by omega
          have HF := hidF (UpTo.done ent_ord (xs := xs) (ys := ys) (a := a) (i := i) (b := e) (by omega) (by omega) (by rw [← hke]; exact HU.out) (by rw [ham]; exact H2.out) (fun hh => HQ.out.1 (by omega)) (fun hh => by have := HQ.out.2 hh; omega))
          clear hke
          go_wp2
          (try simp only [Exit.inBlock, Exit.then]); refine bodyPost_ret (results_none rfl _ _ _) rfl ?_
          exact ⟨rfl, ys, HB, HF.out, HM.out⟩
end Go.Proofs.YthpkjkcfhipjhaaDoor
end
section
namespace Go.Proofs.YthpkjkcfhipjhaaDoor
set_option linter.unusedVariables false
set_option linter.unusedSimpArgs false
open Go.RowKit Go.Proofs.YthpkjkcfhipjhaaDoorW.PrintWords Go.Proofs.YthpkjkcfhipjhaaDoorW.PrintLast PRW PZA
set_option maxRecDepth 1000000 in
set_option maxHeartbeats 8000000 in
theorem sym2_c {w0 : World} (b cap : Nat) (xs : List (Ent w0)) (w : World) (h : SB w0 b xs w) (a m e : Nat) (ham : a + 1 < m) (hme : m + 1 = e) (hl : e ≤ xs.length) (hs : xs.length ≤ 1000000) (h2 : Srt (leC Ent.cf) a m xs) :
    Calls Tryd.prog 84 #[.slice (some ⟨b, 0, none⟩) xs.length cap, .int .i64 a, .int .i64 m, .int .i64 e, byRowV] w fun r w' => r = .returned (.tuple #[]) ∧ ∃ ys, SB w0 b ys w' ∧ Srt (leC Ent.cf) a e ys ∧ Moved a e xs ys := by
  have hu := Tryd.underlying35
  have eg := enter_byRow
  have HS := hidF h
  have H2 := hidF h2
  clear h h2
  obtain ⟨d, hdd⟩ : ∃ d, m - a = d := ⟨_, rfl⟩
  have v0 : IntKind.i64.wrap ((m : Int) - (a : Int)) = (d : Int) := by rw [IntKind.wrap_i64]; omega
  have vd : ((d : Int) == 1) = false := beq_eq_false_iff_ne.2 (by omega)
  have v00 : IntKind.i64.wrap ((e : Int) - (m : Int)) = 1 := by rw [IntKind.wrap_i64]; omega
  have ha : m < xs.length := by omega
  have haI : (m : Int) < (xs.length : Int) := by omega
  obtain ⟨xa, hxa⟩ : ∃ x, gx xs m = x := ⟨_, rfl⟩
  go_enter Tryd.func84, Tryd.ntmps84
  go_wp2
  go_loopw [14, 15] (fun v10 v11 wr => ∃ (i j : Nat), v10 = Value.int .i64 i ∧ v11 = Value.int .i64 j ∧ SB w0 b xs wr ∧ Hid (BS a m i j (fun c => 0 ≤ Ent.cf (gx xs m) (gx xs c)))) (fun v10 v11 _ => natOf v11 - natOf v10)
  case atStart => exact ⟨a, m, rfl, rfl, HS.out, hidF (BS.start (by omega))⟩
  case round =>
    obtain ⟨i, j, rfl, rfl, HB, HP⟩ := hrel
    have p0 := HP.out.h0
    have p1 := HP.out.h1
    have p2 := HP.out.h2
    by_cases hij : i < j
    · have hd : decide ((i : Int) < (j : Int)) = true := decide_eq_true (by omega)
      have g0 : (i : Int) < (j : Int) := by omega
      obtain ⟨ij, hsum⟩ : ∃ s, i + j = s := ⟨_, rfl⟩
      obtain ⟨c, hc⟩ : ∃ c, ij / 2 = c := ⟨_, rfl⟩
      have v1 : IntKind.i64.wrap ((i : Int) + (j : Int)) = (ij : Int) := by rw [IntKind.wrap_i64]; omega
      have v2 : IntKind.u64.wrap (ij : Int) = (ij : Int) := by rw [IntKind.wrap_u64]; omega
      have v3 : (ij : Int) / 2 = (c : Int) := by omega
      have v4 : IntKind.i64.wrap (c : Int) = (c : Int) := by rw [IntKind.wrap_i64]; omega
      have v5 : IntKind.u64.wrap (c : Int) = (c : Int) := by rw [IntKind.wrap_u64]; omega
      have v6 : IntKind.i64.wrap ((c : Int) + 1) = ((c + 1 : Nat) : Int) := by rw [IntKind.wrap_i64]; omega
      have c1 : c < xs.length := by omega
      have c2 : (c : Int) < (xs.length : Int) := by omega
      obtain ⟨xc, hxc⟩ : ∃ x, gx xs c = x := ⟨_, rfl⟩
      have hC : SB w0 b xs { wr with drawn := wr.drawn + 1 } := HB.drew
      clear HB
      by_cases hlt : ¬ Ent.cf xa xc < 0
      · have HP2 := hidF (HP.out.up (c := c) (by omega) (by omega) (by show 0 ≤ Ent.cf (gx xs m) (gx xs c); rw [hxc, hxa]; omega))
        have hcd : decide (Ent.cf xa xc < 0) = false := decide_eq_false hlt
        clear p0 p1 p2
        go_wp2_with fail
        refine zregion (C := SB w0 b xs) (by kernel_rfl) (by kernel_rfl) hC ?_
        clear hC
        repeat (first
          | go_big_quiet_skip
          | (go_big_quiet_want; first
              | (go_big_quiet_op; go_big_quiet_on)
              | (apply Exists.intro
                 refine ⟨fun w' hw' => ?_, ?_⟩
                 · (have HC := Lib.hid hw'
                    have i0 := hw'.c0 c c1
                    have i1 := hw'.c1 c c1
                    have j0 := hw'.c0 m ha
                    have j1 := hw'.c1 m ha
                    rw [hxc] at i0 i1
                    rw [hxa] at j0 j1
                    clear hw'
                    go_simp
                    first
                      | exact rfl
                      | ((with_reducible refine (byRow_s _ _ _ HC.out).mono ?_); rintro e w'' ⟨rfl, hb⟩; exact ⟨rfl, hb⟩))
                 go_simp
                 go_big_quiet_on)))
        refine wpQuiet_nil ?_
        intro w' hw'
        go_wp2
        go_roundw
        case rel => exact ⟨c + 1, j, rfl, rfl, hw', HP2⟩
        case measure => simp [natOf]; omega
      · have HP2 := hidF (HP.out.down (c := c) (by omega) (by omega) (by show ¬ 0 ≤ Ent.cf (gx xs m) (gx xs c); rw [hxc, hxa]; omega))
        have hcd : decide (Ent.cf xa xc < 0) = true := decide_eq_true (Decidable.of_not_not hlt)
        clear p0 p1 p2
        go_wp2_with fail
        refine zregion (C := SB w0 b xs) (by kernel_rfl) (by kernel_rfl) hC ?_
        clear hC
        repeat (first
          | go_big_quiet_skip
          | (go_big_quiet_want; first
              | (go_big_quiet_op; go_big_quiet_on)
              | (apply Exists.intro
                 refine ⟨fun w' hw' => ?_, ?_⟩
                 · (have HC := Lib.hid hw'
                    have i0 := hw'.c0 c c1
                    have i1 := hw'.c1 c c1
                    have j0 := hw'.c0 m ha
                    have j1 := hw'.c1 m ha
                    rw [hxc] at i0 i1
                    rw [hxa] at j0 j1
                    clear hw'
                    go_simp
                    first
                      | exact rfl
                      | ((with_reducible refine (byRow_s _ _ _ HC.out).mono ?_); rintro e w'' ⟨rfl, hb⟩; exact ⟨rfl, hb⟩))
                 go_simp
                 go_big_quiet_on)))
        refine wpQuiet_nil ?_
        intro w' hw'
        go_wp2
        go_roundw
        case rel => exact ⟨i, c, rfl, rfl, hw', HP2⟩
        case measure => simp [natOf]; omega
    · have hd : decide ((i : Int) < (j : Int)) = false := decide_eq_false (by omega)
      have g0 : ¬ (i : Int) < (j : Int) := by omega
      have q1 : a < i → 0 ≤ Ent.cf (gx xs m) (gx xs (i - 1)) := fun hh => HP.out.lo hh
      have q2 : i < m → ¬ 0 ≤ Ent.cf (gx xs m) (gx xs j) := fun hh => HP.out.hi (by omega)
      rw [show j = i by omega] at q2
      have HQ := hidF (⟨fun hh => by have := q1 hh; omega, fun hh => by have := q2 hh; omega⟩ : (a < i → ¬ Ent.cf (gx xs m) (gx xs (i - 1)) < 0) ∧ (i < m → Ent.cf (gx xs m) (gx xs i) < 0))
      clear q1 q2
      have HB2 := hidF HB
      clear HB
      go_wp2
      go_loopw [17] (fun v wr => ∃ (k : Nat) (ys : List (Ent w0)), v = Value.int .i64 k ∧ i ≤ k ∧ k ≤ m ∧ SB w0 b ys wr ∧ Hid (DownTo m k xs ys) ∧ Hid (Moved a e xs ys)) (fun v _ => natOf v)
      case atStart => exact ⟨m, xs, rfl, by omega, by omega, HB2.out, hidF (DownTo.start _ _), hidF (Moved.refl _ _ _)⟩
      case round =>
        obtain ⟨q, ys, rfl, hak, hki, HB, HU, HM⟩ := hrel
        have hlen := HM.out.len
        by_cases hk : i < q
        · have hd2 : decide ((i : Int) < (q : Int)) = true := decide_eq_true (by omega)
          have hd3 : decide ((q : Int) > (i : Int)) = true := decide_eq_true (by omega)
          have g2 : (i : Int) < (q : Int) := by omega
          obtain ⟨k, hq⟩ : ∃ k, k + 1 = q := ⟨q - 1, by omega⟩
          have v2 : IntKind.i64.wrap ((q : Int) - 1) = (k : Int) := by rw [IntKind.wrap_i64]; omega
          have hk1 : k < ys.length := by omega
          have hq1 : q < ys.length := by omega
          have b1 : k < xs.length := by omega
          have b2 : q < xs.length := by omega
          have b3 : (k : Int) < (xs.length : Int) := by omega
          have b4 : (q : Int) < (xs.length : Int) := by omega
          have HU2 := hidF (DownTo.step (k := k) (by rw [hq]; exact HU.out) (by omega) (by omega))
          have HM2 := hidF (HM.out.trans (Moved.swap (a := a) (b := e) ys q k (by omega) (by omega) (by omega) (by omega) (by omega)))
          rw [hq] at HU2
          have HSW := hidF (HB.swap q k hq1 hk1)
          have i0 := HB.c0 _ hk1
          have i1 := HB.c1 _ hk1
          have j0 := HB.c0 _ hq1
          have j1 := HB.c1 _ hq1
          have f0 := HB.fr
          generalize hgi : gx ys k = ei at *
          generalize hgj : gx ys q = ej at *
          clear HB
          go_wp2_with fail
          go_region
          all_goals go_wp2
          go_roundw
          case rel => exact ⟨k, swp ys q k, rfl, by omega, by omega, HSW.out.drew, HU2, HM2⟩
          case measure => simp [natOf]; omega
        · have hd2 : decide ((i : Int) < (q : Int)) = false := decide_eq_false (by omega)
          have hd3 : decide ((q : Int) > (i : Int)) = false := decide_eq_false (by omega)
          have g2 : ¬ (i : Int) < (q : Int) := by omega
          have hke : q = i := by omega
          have HF := hidF (DownTo.done ent_ord (xs := xs) (ys := ys) (a := a) (i := i) (m := m) (by omega) (by omega) (by rw [← hke]; exact HU.out) H2.out (fun hh => by have := HQ.out.1 hh; omega) (fun hh => HQ.out.2 hh))
          rw [hme] at HF
          clear hke
          go_wp2
          (try simp only [Exit.inBlock, Exit.then]); refine bodyPost_ret (results_none rfl _ _ _) rfl ?_
          exact ⟨rfl, ys, HB, HF.out, HM.out⟩
end Go.Proofs.YthpkjkcfhipjhaaDoor
end
section
namespace Go.Proofs.YthpkjkcfhipjhaaDoor
set_option linter.unusedVariables false
set_option linter.unusedSimpArgs false
open Go.RowKit Go.Proofs.YthpkjkcfhipjhaaDoorW.PrintWords Go.Proofs.YthpkjkcfhipjhaaDoorW.PrintLast PRW PZA
theorem BS.iff' {s0 r0 s r : Nat} {P P' : Nat → Prop} (h : BS s0 r0 s r P) (k : ∀ c, P c ↔ P' c) : BS s0 r0 s r P' := ⟨h.h0, h.h1, h.h2, fun x => (k _).1 (h.lo x), fun x y => h.hi x ((k _).2 y)⟩
theorem decI (p q : Nat) : decide ((p : Int) < (q : Int)) = decide (p < q) := by
  by_cases h : p < q
  · rw [decide_eq_true h, decide_eq_true (by omega)]
  · rw [decide_eq_false h, decide_eq_false (by omega)]
theorem nand {p q : Prop} (h : ¬ (p ∧ q)) : ¬ p ∨ ¬ q := by
  by_cases hp : p
  · exact .inr fun hq => h ⟨hp, hq⟩
  · exact .inl hp
/-- what the merge of a..m and m..e leaves -/
def SymOk (w0 : World) (b cap : Nat) (a m e : Nat) : Prop := ∀ (xs : List (Ent w0)) (w : World), SB w0 b xs w → a < m → m < e → e ≤ xs.length → xs.length ≤ 1000000 → Srt (leC Ent.cf) a m xs → Srt (leC Ent.cf) m e xs →
    Calls Tryd.prog 84 #[.slice (some ⟨b, 0, none⟩) xs.length cap, .int .i64 a, .int .i64 m, .int .i64 e, byRowV] w fun r w' => r = .returned (.tuple #[]) ∧ ∃ ys, SB w0 b ys w' ∧ Srt (leC Ent.cf) a e ys ∧ Moved a e xs ys
set_option maxRecDepth 1000000 in
set_option maxHeartbeats 16000000 in
theorem sym3_c {w0 : World} (b cap : Nat) (a m e : Nat) (IH : ∀ a' m' e', e' - a' < e - a → SymOk w0 b cap a' m' e') (n1 : a + 1 ≠ m) (n2 : m + 1 ≠ e) : SymOk w0 b cap a m e := by
  intro xs w h ham hme hl hs h1 h2
  have hu := Tryd.underlying35
  have eg := enter_byRow
  have HS := hidF h
  have H1 := hidF h1
  have H2 := hidF h2
  have HI := hidF IH
  clear h h1 h2 IH
  obtain ⟨d, hdd⟩ : ∃ d, m - a = d := ⟨_, rfl⟩
  have v0 : IntKind.i64.wrap ((m : Int) - (a : Int)) = (d : Int) := by rw [IntKind.wrap_i64]; omega
  have vd : ((d : Int) == 1) = false := beq_eq_false_iff_ne.2 (by omega)
  obtain ⟨d2, hdd2⟩ : ∃ d, e - m = d := ⟨_, rfl⟩
  have v00 : IntKind.i64.wrap ((e : Int) - (m : Int)) = (d2 : Int) := by rw [IntKind.wrap_i64]; omega
  have vd2 : ((d2 : Int) == 1) = false := beq_eq_false_iff_ne.2 (by omega)
  obtain ⟨ae, hae⟩ : ∃ s, a + e = s := ⟨_, rfl⟩
  obtain ⟨mid, hmid⟩ : ∃ c, ae / 2 = c := ⟨_, rfl⟩
  have u1 : IntKind.i64.wrap ((a : Int) + (e : Int)) = (ae : Int) := by rw [IntKind.wrap_i64]; omega
  have u2 : IntKind.u64.wrap (ae : Int) = (ae : Int) := by rw [IntKind.wrap_u64]; omega
  have u3 : (ae : Int) / 2 = (mid : Int) := by omega
  have u4 : IntKind.i64.wrap (mid : Int) = (mid : Int) := by rw [IntKind.wrap_i64]; omega
  have u5 : IntKind.u64.wrap (mid : Int) = (mid : Int) := by rw [IntKind.wrap_u64]; omega
  obtain ⟨n, hn⟩ : ∃ c, mid + m = c := ⟨_, rfl⟩
  have u6 : IntKind.i64.wrap ((mid : Int) + (m : Int)) = (n : Int) := by rw [IntKind.wrap_i64]; omega
  have u7 : IntKind.i64.wrap ((n : Int) - 1) = ((n - 1 : Nat) : Int) := by rw [IntKind.wrap_i64]; omega
  obtain ⟨s0, hs0⟩ : ∃ c, (if m > mid then mid + m - e else a) = c := ⟨_, rfl⟩
  obtain ⟨r0, hr0⟩ : ∃ c, (if m > mid then mid else m) = c := ⟨_, rfl⟩
  have hsr : s0 ≤ r0 ∧ r0 ≤ m ∧ r0 ≤ mid ∧ a ≤ s0 ∧ n ≤ s0 + e := by
    rw [← hs0, ← hr0]
    split <;> omega
  go_enter Tryd.func84, Tryd.ntmps84
  by_cases hmm : m > mid
  all_goals
    (first
      | (rw [if_pos hmm] at hs0 hr0
         have u9 : (mid : Int) < (m : Int) := by omega
         have u10 : IntKind.i64.wrap ((n : Int) - (e : Int)) = (s0 : Int) := by rw [IntKind.wrap_i64]; omega)
      | (rw [if_neg hmm] at hs0 hr0
         have u9 : ¬ (mid : Int) < (m : Int) := by omega))
    have HS0 := hidF hs0
    have HR0 := hidF hr0
    have HN := hidF hn
    have HSR := hidF hsr
    clear hs0 hr0 hn hsr
    go_wp2
    go_loopw [20, 21] (fun v20 v21 wr => ∃ (i j : Nat), v20 = Value.int .i64 i ∧ v21 = Value.int .i64 j ∧ SB w0 b xs wr ∧ Hid (BS s0 r0 i j (fun c => 0 ≤ Ent.cf (gx xs (n - 1 - c)) (gx xs c)))) (fun v20 v21 _ => natOf v21 - natOf v20)
    case atStart => exact ⟨s0, r0, by first | rfl | (rw [HS0.out]), by rw [HR0.out], HS.out, hidF (BS.start HSR.out.1)⟩
    case round =>
      obtain ⟨i, j, rfl, rfl, HB, HP⟩ := hrel
      have p0 := HP.out.h0
      have p1 := HP.out.h1
      have p2 := HP.out.h2
      have hsr := HSR.out
      have hn := HN.out
      by_cases hij : i < j
      · have hd : decide ((i : Int) < (j : Int)) = true := decide_eq_true (by omega)
        have g0 : (i : Int) < (j : Int) := by omega
        obtain ⟨ij, hsum⟩ : ∃ s, i + j = s := ⟨_, rfl⟩
        obtain ⟨c, hc⟩ : ∃ c, ij / 2 = c := ⟨_, rfl⟩
        have v1 : IntKind.i64.wrap ((i : Int) + (j : Int)) = (ij : Int) := by rw [IntKind.wrap_i64]; omega
        have v2 : IntKind.u64.wrap (ij : Int) = (ij : Int) := by rw [IntKind.wrap_u64]; omega
        have v3 : (ij : Int) / 2 = (c : Int) := by omega
        have v4 : IntKind.i64.wrap (c : Int) = (c : Int) := by rw [IntKind.wrap_i64]; omega
        have v5 : IntKind.u64.wrap (c : Int) = (c : Int) := by rw [IntKind.wrap_u64]; omega
        have v6 : IntKind.i64.wrap ((c : Int) + 1) = ((c + 1 : Nat) : Int) := by rw [IntKind.wrap_i64]; omega
        obtain ⟨pc, hpc⟩ : ∃ q, n - 1 - c = q := ⟨_, rfl⟩
        have v7 : IntKind.i64.wrap (((n - 1 : Nat) : Int) - (c : Int)) = (pc : Int) := by rw [IntKind.wrap_i64]; omega
        have c1 : c < xs.length := by omega
        have ha : pc < xs.length := by omega
        have haI : (pc : Int) < (xs.length : Int) := by omega
        obtain ⟨xa, hxa⟩ : ∃ x, gx xs pc = x := ⟨_, rfl⟩
        have c2 : (c : Int) < (xs.length : Int) := by omega
        obtain ⟨xc, hxc⟩ : ∃ x, gx xs c = x := ⟨_, rfl⟩
        have hC : SB w0 b xs { wr with drawn := wr.drawn + 1 } := HB.drew
        clear HB
        by_cases hlt : ¬ Ent.cf xa xc < 0
        · have HP2 := hidF (HP.out.up (c := c) (by omega) (by omega) (by show 0 ≤ Ent.cf (gx xs (n - 1 - c)) (gx xs c); rw [hpc, hxc, hxa]; omega))
          have hcd : decide (Ent.cf xa xc < 0) = false := decide_eq_false hlt
          clear p0 p1 p2 hsr hn hpc
          go_wp2_with fail
          refine zregion (C := SB w0 b xs) (by kernel_rfl) (by kernel_rfl) hC ?_
          clear hC
          repeat (first
            | go_big_quiet_skip
            | (go_big_quiet_want; first
                | (go_big_quiet_op; go_big_quiet_on)
                | (apply Exists.intro
                   refine ⟨fun w' hw' => ?_, ?_⟩
                   · (have HC := Lib.hid hw'
                      have i0 := hw'.c0 c c1
                      have i1 := hw'.c1 c c1
                      have j0 := hw'.c0 pc ha
                      have j1 := hw'.c1 pc ha
                      rw [hxc] at i0 i1
                      rw [hxa] at j0 j1
                      clear hw'
                      go_simp
                      first
                        | exact rfl
                        | ((with_reducible refine (byRow_s _ _ _ HC.out).mono ?_); rintro e w'' ⟨rfl, hb⟩; exact ⟨rfl, hb⟩))
                   go_simp
                   go_big_quiet_on)))
          refine wpQuiet_nil ?_
          intro w' hw'
          go_wp2
          go_roundw
          case rel => exact ⟨c + 1, j, rfl, rfl, hw', HP2⟩
          case measure => simp [natOf]; omega
        · have HP2 := hidF (HP.out.down (c := c) (by omega) (by omega) (by show ¬ 0 ≤ Ent.cf (gx xs (n - 1 - c)) (gx xs c); rw [hpc, hxc, hxa]; omega))
          have hcd : decide (Ent.cf xa xc < 0) = true := decide_eq_true (Decidable.of_not_not hlt)
          clear p0 p1 p2 hsr hn hpc
          go_wp2_with fail
          refine zregion (C := SB w0 b xs) (by kernel_rfl) (by kernel_rfl) hC ?_
          clear hC
          repeat (first
            | go_big_quiet_skip
            | (go_big_quiet_want; first
                | (go_big_quiet_op; go_big_quiet_on)
                | (apply Exists.intro
                   refine ⟨fun w' hw' => ?_, ?_⟩
                   · (have HC := Lib.hid hw'
                      have i0 := hw'.c0 c c1
                      have i1 := hw'.c1 c c1
                      have j0 := hw'.c0 pc ha
                      have j1 := hw'.c1 pc ha
                      rw [hxc] at i0 i1
                      rw [hxa] at j0 j1
                      clear hw'
                      go_simp
                      first
                        | exact rfl
                        | ((with_reducible refine (byRow_s _ _ _ HC.out).mono ?_); rintro e w'' ⟨rfl, hb⟩; exact ⟨rfl, hb⟩))
                   go_simp
                   go_big_quiet_on)))
          refine wpQuiet_nil ?_
          intro w' hw'
          go_wp2
          go_roundw
          case rel => exact ⟨i, c, rfl, rfl, hw', HP2⟩
          case measure => simp [natOf]; omega
      · have hji : j = i := by omega
        rw [hji] at HP
        have hsr := HSR.out
        have hn := HN.out
        have HSY : Hid (Sym Ent.cf a m e mid i xs) := hidF (Sym.of ham hme (by omega) (by
          have h5 := HP.out.iff' (P' := fun c => ¬ Ent.cf (gx xs (mid + m - 1 - c)) (gx xs c) < 0) (fun c => by rw [hn]; show 0 ≤ _ ↔ ¬ _ < 0; omega)
          have e1 := HS0.out
          have e2 := HR0.out
          first
            | (rw [if_pos hmm, if_pos hmm]; rw [← e1, ← e2] at h5; exact h5)
            | (rw [if_neg hmm, if_neg hmm]; rw [← e1, ← e2] at h5; exact h5)))
        have b0 := HSY.out.s0
        have b1 := HSY.out.sm
        have b2 := HSY.out.sd
        have b3 := HSY.out.se
        have b4 := HSY.out.eb
        obtain ⟨en, hen⟩ : ∃ c, n - i = c := ⟨_, rfl⟩
        have hen2 : mid + m - i = en := by omega
        have x1 : IntKind.i64.wrap ((n : Int) - (i : Int)) = (en : Int) := by rw [IntKind.wrap_i64]; omega
        have hmidI : a ≤ mid ∧ mid ≤ e := by omega
        have HEN := hidF hen2
        have KR : Hid (∀ W, SB w0 b xs W → i < m → m < en → Calls Tryd.prog 101 #[.slice (some ⟨b, 0, none⟩) xs.length cap, .int .i64 i, .int .i64 m, .int .i64 en, byRowV] W fun r w' => r = .returned (.tuple #[]) ∧ ∃ ys, SB w0 b ys w' ∧ Rot i m (mid + m - i) xs ys ∧ Moved a e xs ys) :=
          hidF fun W hW g1 g2 => (rotate_c b cap xs W hW i m en g1 g2 (by omega) hs byRowV).mono fun r w' ⟨e1, ys, k1, k2, k3⟩ => ⟨e1, ys, k1, by rw [hen2]; exact k2, k3.wide (by omega) (by omega)⟩
        have K1 : Hid (∀ ys, Rot i m (mid + m - i) xs ys → Moved a e xs ys → ∀ W, SB w0 b ys W → a < i → i < mid → Calls Tryd.prog 84 #[.slice (some ⟨b, 0, none⟩) xs.length cap, .int .i64 a, .int .i64 i, .int .i64 mid, byRowV] W fun r w' => r = .returned (.tuple #[]) ∧ ∃ zs, SB w0 b zs w' ∧ Srt (leC Ent.cf) a mid zs ∧ Moved a mid ys zs) :=
          hidF fun ys hR hM W hW g1 g2 => by
            have hl2 := hM.len
            have := HI.out a i mid (by omega) ys W hW g1 g2 (by omega) (by omega) (HSY.out.low H1.out hR) (HSY.out.mid1 H2.out hR)
            rwa [hl2] at this
        have K2 : Hid (∀ ys zs, Rot i m (mid + m - i) xs ys → Moved a e xs ys → Moved a mid ys zs → ∀ W, SB w0 b zs W → mid < en → en < e → Calls Tryd.prog 84 #[.slice (some ⟨b, 0, none⟩) xs.length cap, .int .i64 mid, .int .i64 en, .int .i64 e, byRowV] W fun r w' => r = .returned (.tuple #[]) ∧ ∃ ws, SB w0 b ws w' ∧ Srt (leC Ent.cf) mid e ws ∧ Moved mid e zs ws) :=
          hidF fun ys zs hR hM hM2 W hW g1 g2 => by
            have hl2 := hM.len
            have hl3 := hM2.len
            have t1 := HSY.out.mid2 H1.out hR
            have t2 := HSY.out.high H2.out hR
            rw [hen2] at t1 t2
            have := HI.out mid en e (by omega) zs W hW g1 g2 (by omega) (by omega) (t1.out hM2 (.inr (Nat.le_refl _))) (t2.out hM2 (.inr (by omega)))
            rwa [hl3, hl2] at this
        have KF : Hid (∀ ys zs ws, Rot i m (mid + m - i) xs ys → Moved a e xs ys → Moved a mid ys zs → Srt (leC Ent.cf) a mid zs → Moved mid e zs ws → Srt (leC Ent.cf) mid e ws → Srt (leC Ent.cf) a e ws ∧ Moved a e xs ws) :=
          hidF fun ys zs ws hR hM m1 s1 m2 s2 => sym_fin ent_ord HSY.out H1.out H2.out hR hM m1 s1 m2 s2
        have K3 : Hid (∀ ys, Rot i m (mid + m - i) xs ys → (¬ a < i ∨ ¬ i < mid) → Srt (leC Ent.cf) a mid ys) := hidF fun ys hR h => sym_first HSY.out H1.out H2.out hR h
        have K4 : Hid (∀ ys zs, Rot i m (mid + m - i) xs ys → Moved a mid ys zs → (¬ mid < en ∨ ¬ en < e) → Srt (leC Ent.cf) mid e zs) := hidF fun ys zs hR m1 h => sym_second HSY.out H1.out H2.out hR m1 (by rw [hen2]; exact h)
        have K5 : Hid ((¬ i < m ∨ ¬ m < en) → Rot i m (mid + m - i) xs xs) := hidF fun h => sym_norot HSY.out (by rw [hen2]; exact h)
        have hijF : ¬ (i : Int) < (j : Int) := by omega
        have hijD : decide ((i : Int) < (j : Int)) = false := decide_eq_false hijF
        clear hen2 b3 b4 hen hsr hn p0 p1 p2 hij hji HP
        have w1 : i < mid ↔ m < en := by have := HEN.out; omega
        have w2 : i < m ↔ mid < en := by have := HEN.out; omega
        by_cases t1 : i < m <;> by_cases t2 : i < mid
        all_goals first | (exfalso; omega) | skip
        all_goals by_cases t3 : a < i <;> by_cases t4 : en < e
        all_goals by_cases t5 : i < m ∧ m < en
        all_goals first | (exfalso; omega) | skip
        all_goals
          have y1 := decI i m
          have y2 := decI m en
          have y3 := decI a i
          have y4 := decI i mid
          have y5 := decI mid en
          have y6 := decI en e
          simp only [t1, t2, t3, t4, ← w1, ← w2] at y1 y2 y3 y4 y5 y6
          clear w1 w2
          have HBh := hidF HB
          clear HB b0 b1 b2
          first | have z1 := of_decide_eq_true y1 | have z1 := of_decide_eq_false y1
          first | have z2 := of_decide_eq_true y2 | have z2 := of_decide_eq_false y2
          first | have z3 := of_decide_eq_true y3 | have z3 := of_decide_eq_false y3
          first | have z4 := of_decide_eq_true y4 | have z4 := of_decide_eq_false y4
          first | have z5 := of_decide_eq_true y5 | have z5 := of_decide_eq_false y5
          first | have z6 := of_decide_eq_true y6 | have z6 := of_decide_eq_false y6
          first
            | (have hR0 := hidF (K5.out (nand t5)); obtain ⟨ys, hR1, hM1, hB1⟩ : ∃ ys, Hid (Rot i m (mid + m - i) xs ys) ∧ Hid (Moved a e xs ys) ∧ Hid (SB w0 b ys wr) := ⟨xs, hR0, hidF (Moved.refl a e xs), HBh⟩; clear hR0)
            | skip
          clear t5
          go_wp2_with (first
            | (go_at_call 101; ((with_reducible refine (KR.out _ HBh.out (by omega) (by omega)).mono ?_); rintro r w1 ⟨rfl, ys, k1, k2, k3⟩; have hB1 := hidF k1; have hR1 := hidF k2; have hM1 := hidF k3; clear k1 k2 k3))
            | (go_at_call 84; ((with_reducible refine (K1.out ys hR1.out hM1.out _ hB1.out (by omega) (by omega)).mono ?_); rintro r w2 ⟨rfl, zs, k4, k5, k6⟩; have hB2 := hidF k4; have s1 := hidF k5; have m1 := hidF k6; clear k4 k5 k6))
            | (go_at_call 84; ((with_reducible refine (K2.out ys zs hR1.out hM1.out m1.out _ hB2.out (by omega) (by omega)).mono ?_); rintro r w3 ⟨rfl, ws, k7, k8, k9⟩; have hB3 := hidF k7; have s2 := hidF k8; have m2 := hidF k9; clear k7 k8 k9))
            | (go_at_call 84; ((with_reducible refine (K2.out ys ys hR1.out hM1.out (Moved.refl _ _ _) _ hB1.out (by omega) (by omega)).mono ?_); rintro r w3 ⟨rfl, ws, k7, k8, k9⟩; have hB3 := hidF k7; have s2 := hidF k8; have m2 := hidF k9; clear k7 k8 k9)))
          first | go_end0 | ((try simp only [Exit.inBlock, Exit.then]); refine bodyPost_ret (results_none rfl _ _ _) rfl ?_)
          first
            | exact ⟨rfl, ws, hB3.out, KF.out ys zs ws hR1.out hM1.out m1.out s1.out m2.out s2.out⟩
            | exact ⟨rfl, ws, hB3.out, KF.out ys ys ws hR1.out hM1.out (Moved.refl _ _ _) (K3.out ys hR1.out (by omega)) m2.out s2.out⟩
            | exact ⟨rfl, zs, hB2.out, KF.out ys zs zs hR1.out hM1.out m1.out s1.out (Moved.refl _ _ _) (K4.out ys zs hR1.out m1.out (by omega))⟩
            | exact ⟨rfl, ys, hB1.out, KF.out ys ys ys hR1.out hM1.out (Moved.refl _ _ _) (K3.out ys hR1.out (by omega)) (Moved.refl _ _ _) (K4.out ys ys hR1.out (Moved.refl _ _ _) (by omega))⟩
/-- the merge, whatever the lengths -/
theorem symMerge_c {w0 : World} (b cap : Nat) : ∀ (k a m e : Nat), e - a ≤ k → SymOk w0 b cap a m e
  | 0, a, m, e, hk => fun xs w h ham hme => by omega
  | k + 1, a, m, e, hk => by
    by_cases n1 : a + 1 = m
    · exact fun xs w h ham hme hl hs h1 h2 => sym1_c b cap xs w h a m e n1 hme hl hs h2
    · by_cases n2 : m + 1 = e
      · exact fun xs w h ham hme hl hs h1 h2 => sym2_c b cap xs w h a m e (by omega) n2 hl hs h1
      · exact sym3_c b cap a m e (fun a' m' e' hlt => symMerge_c b cap k a' m' e' (by omega)) n1 n2
end Go.Proofs.YthpkjkcfhipjhaaDoor
end
section
namespace Go.Proofs.YthpkjkcfhipjhaaDoor
set_option linter.unusedVariables false
set_option linter.unusedSimpArgs false
open Go.RowKit Go.Proofs.YthpkjkcfhipjhaaDoorW.PrintWords Go.Proofs.YthpkjkcfhipjhaaDoorW.PrintLast PRW PZA
set_option maxRecDepth 1000000 in
set_option maxHeartbeats 16000000 in
theorem stable_c {w0 : World} (b cap : Nat) (xs : List (Ent w0)) (w : World) (h : SB w0 b xs w) (hs : xs.length ≤ 1000000) :
    Calls Tryd.prog 65 #[.slice (some ⟨b, 0, none⟩) xs.length cap, .int .i64 xs.length, byRowV] w fun r w' => r = .returned (.tuple #[]) ∧ ∃ ys, SB w0 b ys w' ∧ Srt (leC Ent.cf) 0 xs.length ys ∧ Moved 0 xs.length xs ys := by
  have hu := Tryd.underlying35
  have eg := enter_byRow
  have HS := hidF h
  clear h
  have INS : Hid (∀ (ys : List (Ent w0)) (W : World) (a e : Nat), ys.length = xs.length → SB w0 b ys W → a ≤ e → e ≤ xs.length → Calls Tryd.prog 83 #[.slice (some ⟨b, 0, none⟩) xs.length cap, .int .i64 a, .int .i64 e, byRowV] W fun r w' => r = .returned (.tuple #[]) ∧ ∃ zs, SB w0 b zs w' ∧ Srt (leC Ent.cf) a e zs ∧ Moved a e ys zs) :=
    hidF fun ys W a e hl hb h1 h2 => by have := insSort_c b cap ys W hb a e h1 (by omega) (by omega); rwa [hl] at this
  have MRG : Hid (∀ (ys : List (Ent w0)) (W : World) (a m e : Nat), ys.length = xs.length → SB w0 b ys W → a < m → m < e → e ≤ xs.length → Srt (leC Ent.cf) a m ys → Srt (leC Ent.cf) m e ys → Calls Tryd.prog 84 #[.slice (some ⟨b, 0, none⟩) xs.length cap, .int .i64 a, .int .i64 m, .int .i64 e, byRowV] W fun r w' => r = .returned (.tuple #[]) ∧ ∃ zs, SB w0 b zs w' ∧ Srt (leC Ent.cf) a e zs ∧ Moved a e ys zs) :=
    hidF fun ys W a m e hl hb h1 h2 h3 h4 h5 => by have := symMerge_c b cap (e - a) a m e (Nat.le_refl _) ys W hb h1 h2 (by omega) (by omega) h4 h5; rwa [hl] at this
  obtain ⟨n, hn⟩ : ∃ n, xs.length = n := ⟨_, rfl⟩
  rw [hn] at INS MRG hs ⊢
  have HN := hidF hn
  clear hn
  go_enter Tryd.func65, Tryd.ntmps65
  go_wp2
  go_loopw [7, 8] (fun va vb wr => ∃ (q a : Nat) (ys : List (Ent w0)), va = Value.int .i64 a ∧ vb = Value.int .i64 ((a + 20 : Nat) : Int) ∧ a ≤ n ∧ SB w0 b ys wr ∧ Hid (a = q * 20) ∧ Hid (Blks (leC Ent.cf) 20 0 a ys) ∧ Hid (Moved 0 n xs ys)) (fun va _ _ => n - natOf va)
  case atStart => exact ⟨0, 0, xs, rfl, rfl, by omega, HS.out, hidF (by omega), hidF (fun i j h1 h2 h3 => by omega), hidF (Moved.refl _ _ _)⟩
  case round =>
    obtain ⟨q, a, ys, rfl, rfl, han, HB, HQ, HK, HM⟩ := hrel
    have hlen := hidF (HM.out.len.trans HN.out)
    obtain ⟨e, he⟩ : ∃ e, a + 20 = e := ⟨_, rfl⟩
    rw [he]
    by_cases hlt : e ≤ n
    · have hd : decide ((e : Int) ≤ (n : Int)) = true := decide_eq_true (by omega)
      have g0 : (e : Int) ≤ (n : Int) := by omega
      have v1 : IntKind.i64.wrap ((e : Int) + 20) = ((e + 20 : Nat) : Int) := by rw [IntKind.wrap_i64]; omega
      have C := hidF (INS.out ys wr a e hlen.out HB (by omega) hlt)
      have HK2 : Hid (∀ zs, Srt (leC Ent.cf) a e zs → Moved a e ys zs → Blks (leC Ent.cf) 20 0 e zs) := hidF fun zs s m => by
        have hq := HQ.out
        refine Blks.snoc (q := q) (by omega) (by rw [← hq]; exact HK.out) (by rw [← hq]; exact s) (by rw [← hq]; exact m)
      clear HB
      go_wp2_with (go_at_call 83; ((with_reducible refine C.out.mono ?_); rintro r w1 ⟨rfl, zs, k1, k2, k3⟩; have HB1 := hidF k1; have HS1 := hidF k2; have HM1 := hidF k3; clear k1 k2 k3))
      go_roundw
      case rel => exact ⟨q + 1, e, zs, rfl, rfl, by omega, HB1.out, hidF (by have := HQ.out; omega), hidF (HK2.out zs HS1.out HM1.out), hidF (HM.out.trans (HM1.out.wide (by omega) (by omega)))⟩
      case measure => simp [natOf]; omega
    · have hd : decide ((e : Int) ≤ (n : Int)) = false := decide_eq_false (by omega)
      have g0 : ¬ (e : Int) ≤ (n : Int) := by omega
      have C := hidF (INS.out ys wr a n hlen.out HB (by omega) (by have := HN.out; omega))
      have HK2 : Hid (∀ zs, Srt (leC Ent.cf) a n zs → Moved a n ys zs → Blks (leC Ent.cf) 20 0 n zs) := hidF fun zs s m => by
        have hq := HQ.out
        refine Blks.snoc (q := q) (by omega) (by rw [← hq]; exact HK.out) (by rw [← hq]; exact s) (by rw [← hq]; exact m)
      clear HB
      go_wp2_with (go_at_call 83; ((with_reducible refine C.out.mono ?_); rintro r w1 ⟨rfl, zs, k1, k2, k3⟩; have HB1 := hidF k1; have HS1 := hidF k2; have HM1 := hidF k3; clear k1 k2 k3))
      have HK3 := hidF (HK2.out zs HS1.out HM1.out)
      have HM3 := hidF (HM.out.trans (HM1.out.wide (by omega) (by omega)))
      clear HK2 HK HQ HM HM1 HS1 hlen C he hlt hd g0
      go_loopw [6] (fun vk wr => ∃ (k : Nat) (ys : List (Ent w0)), vk = Value.int .i64 k ∧ 0 < k ∧ k ≤ 3000000 ∧ SB w0 b ys wr ∧ Hid (Blks (leC Ent.cf) k 0 n ys) ∧ Hid (Moved 0 n xs ys)) (fun vk _ => n - natOf vk)
      case atStart => exact ⟨20, zs, rfl, by omega, by omega, HB1.out, HK3, HM3⟩
      case round =>
        clear HK3 HM3 HB1
        obtain ⟨k, ys, rfl, hk0, hk1, HB, HK, HM⟩ := hrel
        by_cases hlt : k < n
        · have hd : decide ((k : Int) < (n : Int)) = true := decide_eq_true (by omega)
          have g0 : (k : Int) < (n : Int) := by omega
          obtain ⟨k2, hk2⟩ : ∃ k2, 2 * k = k2 := ⟨_, rfl⟩
          have v1 : IntKind.i64.wrap (2 * (k : Int)) = (k2 : Int) := by rw [IntKind.wrap_i64]; omega
          have v2 : IntKind.i64.wrap ((k : Int) * 2) = (k2 : Int) := by rw [IntKind.wrap_i64]; omega
          have HBh := hidF HB
          clear HB
          go_wp2
          go_loopw [7, 8] (fun va vb wr => ∃ (q a : Nat) (zs : List (Ent w0)), va = Value.int .i64 a ∧ vb = Value.int .i64 ((a + k2 : Nat) : Int) ∧ a ≤ n ∧ SB w0 b zs wr ∧ Hid (a = q * k2) ∧ Hid (Blks (leC Ent.cf) k2 0 a zs) ∧ Hid (Blks (leC Ent.cf) k a n zs) ∧ Hid (Moved 0 n xs zs)) (fun va _ _ => n - natOf va)
          case atStart => exact ⟨0, 0, ys, rfl, by rw [Nat.zero_add], by omega, HBh.out, hidF (by omega), hidF (fun i j h1 h2 h3 => by omega), HK, HM⟩
          case round =>
            clear HBh HK HM
            obtain ⟨q, a, zs, rfl, rfl, han, HB, HQ, HK2, HK, HM⟩ := hrel
            have hlen := hidF (HM.out.len.trans HN.out)
            obtain ⟨e, he⟩ : ∃ e, a + k2 = e := ⟨_, rfl⟩
            rw [he]
            obtain ⟨m, hm⟩ : ∃ m, a + k = m := ⟨_, rfl⟩
            have v3 : IntKind.i64.wrap ((a : Int) + (k : Int)) = (m : Int) := by rw [IntKind.wrap_i64]; omega
            have hq2 : Hid (a = 2 * q * k ∧ m = (2 * q + 1) * k ∧ e = (2 * q + 2) * k) := hidF (by
              have := HQ.out
              rw [← hk2, ← Nat.mul_assoc, Nat.mul_comm q 2] at this
              refine ⟨this, ?_, ?_⟩
              · rw [Nat.add_mul, ← this]; omega
              · rw [Nat.add_mul, ← this]; omega)
            by_cases hle : e ≤ n
            · have hd2 : decide ((e : Int) ≤ (n : Int)) = true := decide_eq_true (by omega)
              have g2 : (e : Int) ≤ (n : Int) := by omega
              have v4 : IntKind.i64.wrap ((e : Int) + (k2 : Int)) = ((e + k2 : Nat) : Int) := by rw [IntKind.wrap_i64]; omega
              have C := hidF (MRG.out zs wr a m e hlen.out HB (by omega) (by omega) (by have := HN.out; omega)
                (by have h3 := Blks.srt (q := 2 * q) (hi' := m) hk0 HK.out (by rw [← hq2.out.1]; exact Nat.le_refl _) (by omega) (by rw [← hq2.out.2.1]; exact Nat.le_refl _); rwa [← hq2.out.1] at h3)
                (by have h3 := Blks.srt (q := 2 * q + 1) (hi' := e) hk0 HK.out (by rw [← hq2.out.2.1]; omega) (by omega) (by rw [← hq2.out.2.2]; exact Nat.le_refl _); rwa [← hq2.out.2.1] at h3))
              have HF : Hid (∀ us, Srt (leC Ent.cf) a e us → Moved a e zs us → Blks (leC Ent.cf) k2 0 e us ∧ Blks (leC Ent.cf) k e n us ∧ Moved 0 n xs us) := hidF fun us s mv => by
                have hq := HQ.out
                exact ⟨Blks.snoc (q := q) (by omega) (by rw [← hq]; exact HK2.out) (by rw [← hq]; exact s) (by rw [← hq]; exact mv), HK.out.rest (by omega) mv (by omega), HM.out.trans (mv.wide (by omega) (by omega))⟩
              clear HB
              go_wp2_with (go_at_call 84; ((with_reducible refine C.out.mono ?_); rintro r w1 ⟨rfl, us, k1, k2', k3⟩; have HB1 := hidF k1; have HS1 := hidF k2'; have HM1 := hidF k3; clear k1 k2' k3))
              have HG := hidF (HF.out us HS1.out HM1.out)
              go_roundw
              case rel => exact ⟨q + 1, e, us, rfl, rfl, by omega, HB1.out, hidF (by have := HQ.out; rw [Nat.add_mul, ← this]; omega), hidF HG.out.1, hidF HG.out.2.1, hidF HG.out.2.2⟩
              case measure => simp [natOf]; omega
            · have hd2 : decide ((e : Int) ≤ (n : Int)) = false := decide_eq_false (by omega)
              have g2 : ¬ (e : Int) ≤ (n : Int) := by omega
              by_cases hmn : m < n
              · have hd3 : decide ((m : Int) < (n : Int)) = true := decide_eq_true (by omega)
                have g3 : (m : Int) < (n : Int) := by omega
                have C := hidF (MRG.out zs wr a m n hlen.out HB (by omega) (by omega) (by have := HN.out; omega)
                  (by have h3 := Blks.srt (q := 2 * q) (hi' := m) hk0 HK.out (by rw [← hq2.out.1]; exact Nat.le_refl _) (by omega) (by rw [← hq2.out.2.1]; exact Nat.le_refl _); rwa [← hq2.out.1] at h3)
                  (by have h3 := Blks.srt (q := 2 * q + 1) (hi' := n) hk0 HK.out (by rw [← hq2.out.2.1]; omega) (by omega) (by rw [← hq2.out.2.2]; omega); rwa [← hq2.out.2.1] at h3))
                have HF : Hid (∀ us, Srt (leC Ent.cf) a n us → Moved a n zs us → Blks (leC Ent.cf) k2 0 n us ∧ Moved 0 n xs us) := hidF fun us s mv => by
                  have hq := HQ.out
                  exact ⟨Blks.snoc (q := q) (by omega) (by rw [← hq]; exact HK2.out) (by rw [← hq]; exact s) (by rw [← hq]; exact mv), HM.out.trans (mv.wide (by omega) (by omega))⟩
                clear HB
                go_wp2_with (go_at_call 84; ((with_reducible refine C.out.mono ?_); rintro r w1 ⟨rfl, us, k1, k2', k3⟩; have HB1 := hidF k1; have HS1 := hidF k2'; have HM1 := hidF k3; clear k1 k2' k3))
                have HG := hidF (HF.out us HS1.out HM1.out)
                go_roundw
                case rel => exact ⟨k2, us, rfl, by omega, by omega, HB1.out, hidF HG.out.1, hidF HG.out.2⟩
                case measure => simp [natOf]; omega
              · have hd3 : decide ((m : Int) < (n : Int)) = false := decide_eq_false (by omega)
                have g3 : ¬ (m : Int) < (n : Int) := by omega
                have HF : Hid (Blks (leC Ent.cf) k2 0 n zs) := hidF (by
                  have hq := HQ.out
                  have h3 := Blks.srt (q := 2 * q) (hi' := n) hk0 HK.out (by rw [← hq2.out.1]; exact Nat.le_refl _) (by omega) (by rw [← hq2.out.2.1]; omega)
                  rw [← hq2.out.1] at h3
                  exact Blks.snoc (q := q) (by omega) (by rw [← hq]; exact HK2.out) (by rw [← hq]; exact h3) (Moved.refl _ _ _))
                have HB1 := hidF HB
                clear HB
                go_wp2
                go_roundw
                case rel => exact ⟨k2, zs, rfl, by omega, by omega, HB1.out, HF, HM⟩
                case measure => simp [natOf]; omega
        · have hd : decide ((k : Int) < (n : Int)) = false := decide_eq_false (by omega)
          have g0 : ¬ (k : Int) < (n : Int) := by omega
          have HF := hidF (HK.out.whole (by omega))
          go_wp2
          first | go_end0 | ((try simp only [Exit.inBlock, Exit.then]); refine bodyPost_ret (results_none rfl _ _ _) rfl ?_)
          exact ⟨rfl, ys, HB, HF.out, HM.out⟩
end Go.Proofs.YthpkjkcfhipjhaaDoor
end
section
namespace Go.Proofs.YthpkjkcfhipjhaaDoor
set_option linter.unusedVariables false
set_option linter.unusedSimpArgs false
open Go.RowKit Go.Proofs.YthpkjkcfhipjhaaDoorW.PrintWords Go.Proofs.YthpkjkcfhipjhaaDoorW.PrintLast PRW PZA
theorem infoE : (Tryd.prog.info? 35).map (fun i => (i.zero, i.size, i.bytes)) = some (some (.agg #[(.slice none 0 0), (.int .i64 0)]), 2, 32) := by kernel_rfl
theorem infoVv : (Tryd.prog.info? 56).map (fun i => (i.zero, i.size, i.bytes)) = some (some (.agg #[(.int .i64 0), (.int .i64 0), (.int .u64 0), (.string ⟨#[]⟩)]), 4, 40) := by kernel_rfl
theorem C_empty {α : Type} {d : Kd α} {w : World} {n : Nat} {xs : List α} (h : d.C w none n xs) : xs = [] ∧ n = 0 := by
  obtain ⟨h1, h2, h3⟩ := h
  rcases Nat.eq_zero_or_pos n with h0 | h0
  · subst h0; exact ⟨List.eq_nil_of_length_eq_zero h1, rfl⟩
  · obtain ⟨ad, e, _⟩ := h3 h0; cases e
set_option maxRecDepth 100000 in
set_option maxHeartbeats 4000000 in
theorem cloneRow_c (A0 : Option Addr) (c0 : Nat) (l : List S56) (w : World) (hr : Kd.C k56 w A0 l.length l) (hl : l.length ≤ 1000000) :
    Calls Tryd.prog 40 #[.slice A0 l.length c0] w fun e w' => ∃ v0, e = .returned v0 ∧ Kd.R k56 56 w' w.heap.size (fun _ => True) v0 l ∧ Below w.heap.size w w' := by
  have q33 : ∀ (w : World) (a : Option Addr) (n c n' c' : Nat), (binOp .eql 33 (.slice a n c) (.slice none n' c')).run Tryd.prog w = .ok (.bool a.isNone) w := fun w a n c n' c' => Lib.run_eql_slice_nil w _ _ a n c n' c' Tryd.underlying33
  have HR := hidF hr
  clear hr
  cases A0 with
  | none =>
    obtain ⟨rfl, h0⟩ := C_empty HR.out
    go_enter Tryd.func40, Tryd.ntmps40
    go_wp2
    go_ret
    exact ⟨_, rfl, Kd.R_nil _ _ _ _ _, Below.refl _ _⟩
  | some ad =>
    have HB := Aside0.mk (Below.refl w.heap.size w)
    go_enter Tryd.func40, Tryd.ntmps40
    go_wp2_with (first
      | ((with_reducible refine gate_dst (N := 5) rfl ?_); refine Kd.R_lit k56 _ 56 ?hg (N := 5) ?hd (xs := ([] : List S56)) (inner := []) (ok := fun _ => True) (okp := fun _ => True) ?hr ?hp (fun _ hk => hk) trivial (Below.refl _ _) (Nat.le_refl _) (by simp) ?_; (case hd => rfl); (case hg => rfl); (case hr => first | (go_simp; done) | (go_simp; rfl)); (case hp => exact Reps.none _ _); intro v1 w1 ho1 hb1 hg1 hn1; clear hg1 hn1; have HO1 := Aside0.mk ho1; have HB1 := Aside0.mk hb1; clear ho1 hb1)
      | ((with_reducible refine gate_dst (N := 7) rfl ?_); refine Kd.R_append_rows k56 (w0 := w) w.heap.size rfl (.tmp 5) (.tmp 6) 33 56 (.agg #[(.int .i64 0), (.int .i64 0), (.int .u64 0), (.string ⟨#[]⟩)]) 40 rfl Tryd.underlying33 infoVv rfl (by decide) (by omega) v1 [] l _ _ _ (fun _ => True) (fun _ => False) rfl rfl ?aO ?aR (fun _ _ h => h) (fun _ h => h.elim) ?aF ?aB ?aS ?aL ?_; (case aO => exact HO1.out); (case aR => exact Kd.C_below HR.out HB1.out); (case aF => exact fun _ _ => trivial); (case aB => exact HB1.out); (case aS => exact HB1.out.size); (case aL => simp; omega); intro v2 w2 ho2 hb2 hg2 hn2; clear hg2 hn2; have HO2 := Aside0.mk ho2; have HB2 := Aside0.mk hb2; clear ho2 hb2))
    go_ret
    exact ⟨_, rfl, HO2.out, HB2.out⟩
end Go.Proofs.YthpkjkcfhipjhaaDoor
end
section
namespace Go.Proofs.YthpkjkcfhipjhaaDoor
set_option linter.unusedVariables false
set_option linter.unusedSimpArgs false
open Go.RowKit Go.Proofs.YthpkjkcfhipjhaaDoorW.PrintWords Go.Proofs.YthpkjkcfhipjhaaDoorW.PrintLast PRW PZA
/-- a cell's value -/
abbrev CellV := { v : Value // v.oneCell' = true }
def kRaw1 : Kd CellV := Kd.scalar (fun v => v.val) (fun v => v.2)
def kRaw2 : Kd (CellV × CellV) := Kd.pair kRaw1 kRaw1
theorem kRaw2_M {w : World} {base : Nat} {ok : Nat → Prop} {x : CellV × CellV} {cs : List Value} (h : kRaw2.M w base ok x cs) : cs = [x.1.val, x.2.val] := by
  obtain ⟨c0, c1, rfl, h0, h1⟩ := h
  rw [show c0 = [x.1.val] from h0, show c1 = [x.2.val] from h1]; rfl
theorem kRaw2_mk (w : World) (x : CellV × CellV) : kRaw2.K w x [x.1.val, x.2.val] := ⟨[x.1.val], [x.2.val], rfl, rfl, rfl⟩
theorem kRaw2_KM {w : World} {base : Nat} {ok : Nat → Prop} {x : CellV × CellV} {cs : List Value} (h : kRaw2.K w x cs) : kRaw2.M w base ok x cs := h
section
variable {w0 : World}
def Ent.raw (e : Ent w0) : CellV × CellV := (⟨.slice e.A e.x.f0.length e.c, rfl⟩, ⟨.int .i64 e.x.f1, rfl⟩)
theorem choose_ltE {α : Type} [Inhabited α] {n : Nat} {P : Nat → α → Prop} (h : ∀ i, i < n → ∃ x, P i x) : ∃ F : Nat → α, ∀ i, i < n → P i (F i) := by
  classical
  refine ⟨fun i => if hi : i < n then Classical.choose (h i hi) else default, fun i hi => ?_⟩
  simp only [hi, dif_pos]
  exact Classical.choose_spec (h i hi)
theorem ents_of {A : Option Addr} {l : List S35} (hC : Kd.C k35 w0 A l.length l) (hR : ∀ x ∈ l, rngL x.f0 = true ∧ I64 x.f1) (hS : ∀ x ∈ l, soundL x.f0 = true) :
    ∃ xs : List (Ent w0), xs.map Ent.x = l ∧ Kd.C kRaw2 w0 A l.length (xs.map Ent.raw) := by
  obtain ⟨h1, h2, h3⟩ := hC
  rcases Nat.eq_zero_or_pos l.length with h0 | h0
  · obtain rfl := List.eq_nil_of_length_eq_zero h0
    exact ⟨[], rfl, rfl, h2, fun h => absurd h (by simp)⟩
  · obtain ⟨ad, rfl, hc⟩ := h3 h0
    have key : ∀ i, i < l.length → ∃ e : Ent w0, l[i]? = some e.x ∧ ∀ j u, e.enc[j]? = some u → w0.cell? (ad.add (i * 2 + j)) = some u := by
      intro i hi
      have hg := List.getElem?_eq_getElem hi
      obtain ⟨c, _, hK, hcell⟩ := hc i _ hg
      obtain ⟨A0, c0, rfl, hle, hK0⟩ := k35_open hK
      have hm := List.getElem_mem hi
      exact ⟨⟨A0, c0, l[i], hle, hK0, (hR _ hm).1, hS _ hm, (hR _ hm).2⟩, hg, hcell⟩
    obtain ⟨F, hF⟩ := choose_ltE key
    refine ⟨(List.range l.length).map F, ?_, ?_, h2, fun _ => ⟨ad, rfl, fun j p hj => ?_⟩⟩
    · apply List.ext_getElem?
      intro i
      by_cases hi : i < l.length
      · rw [(hF i hi).1]; simp [hi]
      · rw [List.getElem?_eq_none (by simp; omega), List.getElem?_eq_none (by omega)]
    · simp
    · have hjl : j < l.length := by
        have := (List.getElem?_eq_some_iff.1 hj).1
        simpa using this
      have : p = (F j).raw := by simpa [hjl] using hj.symm
      subst this
      exact ⟨_, rfl, kRaw2_mk _ _, (hF j hjl).2⟩
theorem reps_raw {base : Nat} {ok : Nat → Prop} {W : World} {xs : List (Ent w0)} {inner : List Value} (h : Reps (kRaw2.M W base ok) 2 (xs.map Ent.raw) inner) : inner = flatE xs := by
  obtain ⟨h1, h2⟩ := h
  rw [List.length_map] at h1
  have e : ∀ (j : Nat) (hj : j < xs.length), (inner.drop (j * 2)).take 2 = (gx xs j).enc := by
    intro j hj
    have := h2 j (gx xs j).raw (by rw [List.getElem?_map, List.getElem?_eq_getElem hj, gx_at xs j hj]; rfl)
    exact kRaw2_M this
  apply List.ext_getElem?
  intro i
  by_cases hi : i / 2 < xs.length
  · have e1 := e (i / 2) hi
    have e2 : inner[i]? = ((inner.drop (i / 2 * 2)).take 2)[i % 2]? := by
      rw [List.getElem?_take, if_pos (by omega), List.getElem?_drop]; congr 1; omega
    rw [e2, e1]
    rcases Nat.mod_two_eq_zero_or_one i with h0 | h0
    · have := flatE_get0 xs (i / 2) hi
      rw [show i / 2 * 2 = i by omega] at this
      rw [this, h0]; rfl
    · have := flatE_get1 xs (i / 2) hi
      rw [show i / 2 * 2 + 1 = i by omega] at this
      rw [this, h0]; rfl
  · rw [List.getElem?_eq_none (by omega), List.getElem?_eq_none (by rw [flatE_len]; omega)]
theorem sb_of_R {W : World} {v : Value} {xs : List (Ent w0)} (h : kRaw2.R 35 W w0.heap.size (fun _ => True) v (xs.map Ent.raw)) (hb : Below w0.heap.size w0 W) :
    ∃ A c, v = .slice A xs.length c ∧ xs.length ≤ c ∧ (0 < xs.length → ∃ b, A = some ⟨b, 0, none⟩ ∧ SB w0 b xs W) := by
  obtain ⟨_, inner, ho, hr⟩ := h
  rw [List.length_map] at ho
  rcases ho.2 with ⟨rfl, h0⟩ | ⟨g, cap, cur, rfl, hg, hh, hnc, _, hcs, htk⟩
  · rw [h0]; exact ⟨none, 0, rfl, Nat.le_refl _, fun h => absurd h (Nat.lt_irrefl _)⟩
  · refine ⟨_, cap, rfl, hnc, fun _ => ⟨g, rfl, hb, hg, cur.toList.drop (xs.length * 2), ?_⟩⟩
    have e := reps_raw hr
    rw [← e, ← htk]
    have : cur.toList.take (xs.length * kRaw2.sz) ++ cur.toList.drop (xs.length * 2) = cur.toList := List.take_append_drop _ _
    rw [this]; exact hh
end
set_option maxRecDepth 100000 in
set_option maxHeartbeats 4000000 in
theorem cloneEnt_c {w0 : World} (A0 : Option Addr) (c0 n : Nat) (w : World) (hB : Below w0.heap.size w0 w) (xs : List (Ent w0)) (hn : xs.length = n) (hr : Kd.C kRaw2 w A0 n (xs.map Ent.raw)) (hl : n ≤ 1000000) :
    Calls Tryd.prog 36 #[.slice A0 n c0] w fun e w' => ∃ A c, e = .returned (.slice A n c) ∧ n ≤ c ∧ (0 < n → ∃ b, A = some ⟨b, 0, none⟩ ∧ SB w0 b xs w') ∧ Below w.heap.size w w' := by
  have q33 : ∀ (w : World) (a : Option Addr) (n c n' c' : Nat), (binOp .eql 22 (.slice a n c) (.slice none n' c')).run Tryd.prog w = .ok (.bool a.isNone) w := fun w a n c n' c' => Lib.run_eql_slice_nil w _ _ a n c n' c' Tryd.underlying22
  have HR := hidF hr
  have HN := hidF hn
  have HBh := hidF hB
  clear hr hn hB
  cases A0 with
  | none =>
    obtain ⟨h1, h0⟩ := C_empty HR.out
    have HZ := hidF h0
    clear h0 h1
    go_enter Tryd.func36, Tryd.ntmps36
    go_wp2
    go_ret
    have h0 := HZ.out
    exact ⟨none, 0, by rw [h0] <;> rfl, by omega, fun h => by omega, Below.refl _ _⟩
  | some ad =>
    go_enter Tryd.func36, Tryd.ntmps36
    go_wp2_with (first
      | ((with_reducible refine gate_dst (N := 5) rfl ?_); refine Kd.R_lit kRaw2 _ 35 ?hg (N := 5) ?hd (xs := ([] : List (CellV × CellV))) (inner := []) (ok := fun _ => True) (okp := fun _ => True) ?hr ?hp (fun _ hk => hk) trivial (Below.refl _ _) (Nat.le_refl _) (by simp) ?_; (case hd => rfl); (case hg => rfl); (case hr => first | (go_simp; done) | (go_simp; rfl)); (case hp => exact Reps.none _ _); intro v1 w1 ho1 hb1 hg1 hn1; clear hg1 hn1; have HO1 := Aside0.mk ho1; have HB1 := Aside0.mk hb1; clear ho1 hb1)
      | ((with_reducible refine gate_dst (N := 7) rfl ?_); refine Kd.R_append_rows kRaw2 (Rr := kRaw2.K w1) (w0 := w) w.heap.size rfl (.tmp 5) (.tmp 6) 22 35 (.agg #[(.slice none 0 0), (.int .i64 0)]) 32 rfl Tryd.underlying22 infoE rfl (by decide) (by omega) v1 [] (xs.map Ent.raw) _ _ _ (fun _ => True) (fun _ => False) rfl rfl ?aO ?aR (fun _ _ h => kRaw2_KM h) (fun _ h => h.elim) ?aF ?aB ?aS ?aL ?_; (case aO => exact HO1.out); (case aR => exact Kd.C_below HR.out HB1.out); (case aF => exact fun _ _ => trivial); (case aB => exact HB1.out); (case aS => exact HB1.out.size); (case aL => simp; omega); intro v2 w2 ho2 hb2 hg2 hn2; clear hg2 hn2; have HO2 := Aside0.mk ho2; have HB2 := Aside0.mk hb2; clear ho2 hb2))
    go_ret
    have ho := HO2.out
    rw [List.nil_append] at ho
    obtain ⟨A, c, rfl, hc, hS⟩ := sb_of_R (Kd.R_lower ho HBh.out.size) (HBh.out.trans (HB2.out.mono HBh.out.size))
    rw [HN.out] at hS hc ⊢
    exact ⟨A, c, rfl, hc, hS, HB2.out⟩
set_option maxRecDepth 100000 in
set_option maxHeartbeats 4000000 in
theorem insSort0 (A : Option Addr) (c : Nat) (w : World) : Calls Tryd.prog 83 #[.slice A 0 c, .int .i64 0, .int .i64 0, byRowV] w fun r w' => r = .returned (.tuple #[]) ∧ w = w' := by
  go_enter Tryd.func83, Tryd.ntmps83
  go_wp2
  go_loop [8] (fun v => v = Value.int .i64 1) (fun _ => 0)
  case atStart => rfl
  case round =>
    obtain rfl := hrel
    go_wp2
    first | go_end0 | ((try simp only [Exit.inBlock, Exit.then]); refine bodyPost_ret (results_none rfl _ _ _) rfl ?_)
    exact ⟨rfl, rfl⟩
set_option maxRecDepth 100000 in
set_option maxHeartbeats 4000000 in
theorem stable0 (A : Option Addr) (c : Nat) (w : World) : Calls Tryd.prog 65 #[.slice A 0 c, .int .i64 0, byRowV] w fun r w' => r = .returned (.tuple #[]) ∧ w = w' := by
  go_enter Tryd.func65, Tryd.ntmps65
  go_wp2
  go_loop [7, 8] (fun va vb => va = Value.int .i64 0 ∧ vb = Value.int .i64 20) (fun _ _ => 0)
  case atStart => exact ⟨rfl, rfl⟩
  case round =>
    obtain ⟨rfl, rfl⟩ := hrel
    go_wp2_with (go_at_call 83; ((with_reducible refine (insSort0 _ _ _).mono ?_); rintro r w1 ⟨rfl, rfl⟩))
    go_loop [6] (fun vk => vk = Value.int .i64 20) (fun _ => 0)
    case atStart => rfl
    case round =>
      obtain rfl := hrel
      go_wp2
      first | go_end0 | ((try simp only [Exit.inBlock, Exit.then]); refine bodyPost_ret (results_none rfl _ _ _) rfl ?_)
      exact ⟨rfl, rfl⟩
theorem sort0 (A : Option Addr) (c : Nat) (w : World) : Calls Tryd.prog 37 #[.slice A 0 c, byRowV] w fun r w' => r = .returned (.tuple #[]) ∧ w = w' := by
  go_enter Tryd.func37, Tryd.ntmps37
  go_wp2_with (go_at_call 65; ((with_reducible refine (stable0 _ _ _).mono ?_); rintro r w1 ⟨rfl, rfl⟩))
  first | go_end0 | ((try simp only [Exit.inBlock, Exit.then]); refine bodyPost_ret (results_none rfl _ _ _) rfl ?_)
  exact ⟨rfl, rfl⟩
theorem sort_c {w0 : World} (b cap : Nat) (xs : List (Ent w0)) (n : Nat) (hn : xs.length = n) (w : World) (h : SB w0 b xs w) (hs : n ≤ 1000000) :
    Calls Tryd.prog 37 #[.slice (some ⟨b, 0, none⟩) n cap, byRowV] w fun r w' => r = .returned (.tuple #[]) ∧ ∃ ys, SB w0 b ys w' ∧ Srt (leC Ent.cf) 0 n ys ∧ Moved 0 n xs ys := by
  have C := stable_c b cap xs w h (by omega)
  rw [hn] at C
  have HC := hidF C
  clear C hn h
  go_enter Tryd.func37, Tryd.ntmps37
  go_wp2_with (go_at_call 65; ((with_reducible refine HC.out.mono ?_); rintro r w1 ⟨rfl, ys, k1, k2, k3⟩; have HB1 := hidF k1; have HS1 := hidF k2; have HM1 := hidF k3; clear k1 k2 k3))
  first | go_end0 | ((try simp only [Exit.inBlock, Exit.then]); refine bodyPost_ret (results_none rfl _ _ _) rfl ?_)
  exact ⟨rfl, ys, HB1.out, HS1.out, HM1.out⟩
end Go.Proofs.YthpkjkcfhipjhaaDoor
end
section
namespace Go.Proofs.YthpkjkcfhipjhaaDoor
set_option linter.unusedVariables false
set_option linter.unusedSimpArgs false
open Go.RowKit Go.Proofs.YthpkjkcfhipjhaaDoorW.PrintWords Go.Proofs.YthpkjkcfhipjhaaDoorW.PrintLast PRW PZA
theorem wrapi64' (a : Int) : IntKind.i64.wrap a = wrap64 a := by rw [IntKind.wrap_i64]; unfold wrap64; rfl
theorem add64_r (x y : Int) (hx : 0 ≤ x) (hy : 0 ≤ y) (w : World) : (callFunc 66 #[.int .u64 x, .int .u64 y, .int .u64 0]).run Tryd.prog w = .ok (.value (.tuple #[.int .u64 ((x + y) % 18446744073709551616), .int .u64 ((x + y) / 18446744073709551616)])) w := by
  rw [run_callFunc_extern Tryd.func66 (by kernel_rfl) (by kernel_rfl) (by kernel_rfl) (e := add64Entry) (by kernel_rfl), run_add64 x y 0 hx hy (by omega) (by omega), Int.add_zero]
  rfl
set_option maxRecDepth 100000 in
set_option maxHeartbeats 4000000 in
theorem add_c (s t h l h' l' : Int) (eh : s / 18446744073709551616 = h) (el : s % 18446744073709551616 = l) (eh' : (s + t) / 18446744073709551616 = h') (el' : (s + t) % 18446744073709551616 = l') (hs : -38685626227668133590597632 ≤ s ∧ s ≤ 38685626227668133590597632) (ht : I64 t) (w : World) :
    Calls Tryd.prog 38 #[.agg #[.int .i64 h, .int .u64 l], .int .i64 t] w fun e w' => e = .returned (.agg #[.int .i64 h', .int .u64 l']) ∧ Below w.heap.size w w' := by
  have hu := Tryd.underlying67
  obtain ⟨ht1, ht2⟩ := ht
  obtain ⟨u, eu⟩ : ∃ u, t % 18446744073709551616 = u := ⟨_, rfl⟩
  obtain ⟨d, ed⟩ : ∃ d, t / 9223372036854775808 = d := ⟨_, rfl⟩
  obtain ⟨k, ek⟩ : ∃ k, (l + u) / 18446744073709551616 = k := ⟨_, rfl⟩
  obtain ⟨h1, eh1⟩ : ∃ h1, h + d = h1 := ⟨_, rfl⟩
  have e4 : h1 + k = h' := by omega
  have r1 : -9223372036854775808 ≤ h1 ∧ h1 ≤ 9223372036854775807 ∧ -9223372036854775808 ≤ h' ∧ h' ≤ 9223372036854775807 ∧ 0 ≤ k ∧ k ≤ 1 := by omega
  have r2 : l' = (l + u) % 18446744073709551616 ∧ 0 ≤ l ∧ 0 ≤ u := by omega
  have v1 : IntKind.u64.wrap t = u := by rw [IntKind.wrap_u64]; exact eu
  clear eh el eh' el' eu
  have v2 : IntKind.i64.wrap (h + d) = h1 := by clear v1 ed; rw [IntKind.wrap_i64]; omega
  have v3 : IntKind.i64.wrap k = k := by clear v1 v2; rw [IntKind.wrap_i64]; omega
  have v4 : IntKind.i64.wrap (h1 + k) = h' := by clear v1 v2 v3; rw [IntKind.wrap_i64]; omega
  have a1 : ∀ W, (callFunc 66 #[.int .u64 l, .int .u64 u, .int .u64 0]).run Tryd.prog W = .ok (.value (.tuple #[.int .u64 l', .int .u64 k])) W := fun W => by
    rw [add64_r l u r2.2.1 r2.2.2, ek, ← r2.1]
  obtain ⟨r3, r4, r5, r6, r7, r8⟩ := r1
  have HV : Hid (wrap64 (wrap64 (h + t / 9223372036854775808) + k) = h') := hidF (by rw [← wrapi64', ← wrapi64', ed, v2, v4])
  clear ek eh1 e4 r2 ed v2 v4
  go_enter Tryd.func38, Tryd.ntmps38
  go_wp2_with (simp only [a1])
  exact bodyPost_ret (v := .agg #[.int .i64 (wrap64 (wrap64 (h + t / 9223372036854775808) + k)), .int .u64 l']) (by simp [results, Tryd.results38, go_sem, *]) rfl ⟨by rw [HV.out], (by repeat (first | (with_reducible exact Below.refl _ _) | (with_reducible refine below_al ?_ _) | (with_reducible refine below_drewN ?_ _) | (with_reducible refine Below.drew ?_) | (with_reducible refine below_via (by assumption) ?_) | (with_reducible refine below_sc ?_ ?_ _; · (first | (simp; done) | (simp; omega) | omega))))⟩
/-- whether a weight may be -/
def fair (w : Int) : Bool := decide (-4611686018427387904 ≤ w) && decide (w ≤ 4611686018427387904)
theorem isFair_c (a : Int) (w : World) : Calls Tryd.prog 31 #[.int .i64 a] w fun e w' => e = .returned (.bool (fair a)) ∧ w = w' := by
  unfold fair
  by_cases h1 : -4611686018427387904 ≤ a
  · rw [decide_eq_true h1]
    go_enter Tryd.func31, Tryd.ntmps31
    go_wp2
    go_ret
    exact ⟨by simp <;> rfl, rfl⟩
  · rw [decide_eq_false h1]
    go_enter Tryd.func31, Tryd.ntmps31
    go_wp2
    go_ret
    exact ⟨by simp <;> rfl, rfl⟩
set_option maxRecDepth 100000 in
set_option maxHeartbeats 4000000 in
theorem weight_c (s h l : Int) (eh : s / 18446744073709551616 = h) (el : s % 18446744073709551616 = l) (hs : -38685626227668133590597632 ≤ s ∧ s ≤ 38685626227668133590597632) (w : World) :
    Calls Tryd.prog 39 #[.agg #[.int .i64 h, .int .u64 l]] w fun e w' => ∃ r, e = .returned (.tuple #[.int .i64 r, .bool (fair s)]) ∧ (fair s = true → r = s) ∧ Below w.heap.size w w' := by
  have hu := Tryd.underlying67
  obtain ⟨r, er⟩ : ∃ r, IntKind.i64.wrap l = r := ⟨_, rfl⟩
  obtain ⟨d, ed⟩ : ∃ d, r / 9223372036854775808 = d := ⟨_, rfl⟩
  have HE : Hid (decide (h = d) = true → r = s) := hidF fun e => by
    have e := of_decide_eq_true e
    rw [IntKind.wrap_i64] at er; omega
  have HF : Hid (decide (h = d) = false → fair s = false) := hidF fun e => by
    have e := of_decide_eq_false e
    rw [IntKind.wrap_i64] at er
    unfold fair
    by_cases h1 : -4611686018427387904 ≤ s <;> by_cases h2 : s ≤ 4611686018427387904
    · omega
    all_goals simp [h1, h2]
  clear eh el
  cases hd : decide (h = d)
  · have hd1 : (h == d) = false := by rw [← hd]; rfl
    have hf := HF.out hd
    rw [hf]
    clear HE HF hd hf
    go_enter Tryd.func39, Tryd.ntmps39
    go_wp2
    go_ret2
    exact ⟨r, rfl, (fun h => by cases h), (by repeat (first | (with_reducible exact Below.refl _ _) | (with_reducible refine below_al ?_ _) | (with_reducible refine below_drewN ?_ _) | (with_reducible refine Below.drew ?_) | (with_reducible refine below_via (by assumption) ?_) | (with_reducible refine below_sc ?_ ?_ _; · (first | (simp; done) | (simp; omega) | omega))))⟩
  · have hd1 : (h == d) = true := by rw [← hd]; rfl
    have he := HE.out hd
    have HR := hidF he
    rw [← he]
    clear HE HF hd he
    go_enter Tryd.func39, Tryd.ntmps39
    go_wp2_with (go_at_call 31; ((with_reducible refine (isFair_c _ _).mono ?_); rintro e w1 ⟨rfl, rfl⟩))
    go_ret2
    exact ⟨r, rfl, fun _ => rfl, (by repeat (first | (with_reducible exact Below.refl _ _) | (with_reducible refine below_al ?_ _) | (with_reducible refine below_drewN ?_ _) | (with_reducible refine Below.drew ?_) | (with_reducible refine below_via (by assumption) ?_) | (with_reducible refine below_sc ?_ ?_ _; · (first | (simp; done) | (simp; omega) | omega))))⟩
/-- whether an entry may be -/
def okE (x : S35) : Bool := fair x.f1 && soundL x.f0
/-- function g tells p of an entry -/
def EntPred (g : Nat) (p : S35 → Bool) : Prop := ∀ (x : S35) (A : Option Addr) (c : Nat) (W : World), Kd.C k56 W A x.f0.length x.f0 → x.f0.length ≤ c → rngL x.f0 = true → Calls Tryd.prog g #[.agg #[.slice A x.f0.length c, .int .i64 x.f1]] W fun e w' => e = .returned (.bool (p x)) ∧ Below W.heap.size W w'
theorem make1_c : EntPred 35 (fun x => !okE x) := by
  intro x A c W hC hc hr
  have HH := hidF (fun W' (hb : Below W.heap.size W W') => rowSound_c A c x.f0 W' (Kd.C_below hC hb) (rngL_I hr))
  clear hC hr
  unfold okE
  cases hf : fair x.f1
  · have FF : ∀ V, Calls Tryd.prog 31 #[.int .i64 x.f1] V fun e w' => e = .returned (.bool false) ∧ V = w' := fun V => by rw [← hf]; exact isFair_c _ _
    have HF := hidF hf
    clear hf
    go_enter Tryd.func35, Tryd.ntmps35
    go_wp2_with (go_at_call 31; ((with_reducible refine (FF _).mono ?_); rintro e w1 ⟨rfl, rfl⟩))
    go_ret
    exact ⟨by (show _ = Ending.returned (.bool (!(fair x.f1 && soundL x.f0)))); rw [HF.out]; rfl, (by repeat (first | (with_reducible exact Below.refl _ _) | (with_reducible refine below_al ?_ _) | (with_reducible refine below_drewN ?_ _) | (with_reducible refine Below.drew ?_) | (with_reducible refine below_via (by assumption) ?_) | (with_reducible refine below_sc ?_ ?_ _; · (first | (simp; done) | (simp; omega) | omega))))⟩
  · have FF : ∀ V, Calls Tryd.prog 31 #[.int .i64 x.f1] V fun e w' => e = .returned (.bool true) ∧ V = w' := fun V => by rw [← hf]; exact isFair_c _ _
    have HF := hidF hf
    clear hf
    go_enter Tryd.func35, Tryd.ntmps35
    go_wp2_with (first | (go_at_call 31; ((with_reducible refine (FF _).mono ?_); rintro e w1 ⟨rfl, rfl⟩)) | (go_at_call 28; ((with_reducible refine (HH.out _ (by repeat (first | (with_reducible exact Below.refl _ _) | (with_reducible refine below_al ?_ _) | (with_reducible refine below_drewN ?_ _) | (with_reducible refine Below.drew ?_) | (with_reducible refine below_via (by assumption) ?_) | (with_reducible refine below_sc ?_ ?_ _; · (first | (simp; done) | (simp; omega) | omega))))).mono ?_); rintro e w1 ⟨rfl, hb⟩)))
    go_ret
    exact ⟨by (show _ = Ending.returned (.bool (!(fair x.f1 && soundL x.f0)))); rw [HF.out]; rfl, (by repeat (first | (with_reducible exact Below.refl _ _) | (with_reducible refine below_al ?_ _) | (with_reducible refine below_drewN ?_ _) | (with_reducible refine Below.drew ?_) | (with_reducible refine below_via (by assumption) ?_) | (with_reducible refine below_sc ?_ ?_ _; · (first | (simp; done) | (simp; omega) | omega))))⟩
theorem enter_make1 : ∀ args w, (callFunc 35 args).run Tryd.prog w = .ok (.enter 35 args) w := by
  intro args w
  simp [go_sem, Tryd.func35]
theorem drop_rdE (L : List S35) (c : Int) (h0 : 0 ≤ c) (h : c < L.length) : L.drop c.toNat = rd_T35 L c :: L.drop (c + 1).toNat := by
  have h' : c.toNat < L.length := by omega
  rw [List.drop_eq_getElem_cons h', show (c + 1).toNat = c.toNat + 1 by omega]
  unfold rd_T35
  simp [h']
theorem rd_memE (L : List S35) (c : Int) (h0 : 0 ≤ c) (h : c < L.length) : rd_T35 L c ∈ L := by
  have h' : c.toNat < L.length := by omega
  unfold rd_T35
  simp [h']
set_option maxRecDepth 100000 in
set_option maxHeartbeats 2000000 in
theorem indexFuncE_c (g : Nat) (eg : ∀ args w, (callFunc g args).run Tryd.prog w = .ok (.enter g args) w) (p : S35 → Bool) (hp : EntPred g p) (A0 : Option Addr) (c0 : Nat) (l : List S35) (w : World)
    (hr : Kd.C k35 w A0 l.length l) (hI : ∀ x ∈ l, rngL x.f0 = true) :
    Calls Tryd.prog 64 #[.slice A0 l.length c0, .func (.func g) #[] #[]] w fun e w' => e = .returned (.int .i64 (idxP p l 0)) ∧ Below w.heap.size w w' := by
  have HR := hidF hr
  have HI := hidF hI
  have HPP := hidF hp
  have hl : l.length ≤ 9223372036854775807 := hr.2.1
  clear hr hI hp
  have hu := Tryd.underlying35
  go_enter Tryd.func64, Tryd.ntmps64
  go_wp2
  go_loopw [8] (fun v wr => ∃ c : Int, v = Value.int .i64 c ∧ 0 ≤ c ∧ c ≤ l.length ∧ Below w.heap.size w wr ∧ Hid (idxP p l 0 = idxP p (l.drop c.toNat) c)) (fun v _ => l.length - natOf v)
  case atStart => exact ⟨0, rfl, by omega, by omega, Below.refl _ _, hidF (by simp)⟩
  case round =>
    obtain ⟨c, rfl, hc0, hcl, HB, hE⟩ := hrel
    by_cases hlt : c < l.length
    · have hx := HI.out _ (rd_memE l c hc0 hlt)
      have hD := hidF (drop_rdE l c hc0 hlt)
      obtain ⟨ad, A1, c1, e, h0, h1, hl1, hC1⟩ := at_T35 HR.out c hc0 hlt
      cases e
      have cS := HPP.out _ A1 c1 wr (Kd.C_below hC1 HB) hl1 hx
      replace h0 := (HB.cell (World.block_lt_of_cell? w _ h0)).trans h0
      replace h1 := (HB.cell (World.block_lt_of_cell? w _ h1)).trans h1
      clear hC1
      cases hpc : p (rd_T35 l c)
      · have hE2 : Hid (idxP p l 0 = idxP p (l.drop (c + 1).toNat) (c + 1)) := hidF (by rw [hE.out, hD.out, idxP, hpc]; rfl)
        rw [hpc] at cS
        have CS := hidF cS
        clear cS hpc hE hx
        go_wp2_with (go_at_fn g; refine CS.out.mono ?_; rintro e W' ⟨rfl, hb⟩)
        go_roundw
        case rel => exact ⟨c + 1, rfl, by omega, by omega, HB.trans (hb.mono HB.size), hE2⟩
        case measure => simp [natOf]; omega
      · have hE2 : Hid (idxP p l 0 = c) := hidF (by rw [hE.out, hD.out, idxP, hpc]; rfl)
        rw [hpc] at cS
        have CS := hidF cS
        clear cS hpc hE hx
        go_wp2_with (go_at_fn g; refine CS.out.mono ?_; rintro e W' ⟨rfl, hb⟩)
        go_ret
        exact ⟨by rw [hE2.out] <;> rfl, HB.trans (hb.mono HB.size)⟩
    · have hce : c = l.length := by omega
      have hE2 : Hid (idxP p l 0 = -1) := hidF (by rw [hE.out, hce, List.drop_of_length_le (by omega)]; rfl)
      clear hce
      go_wp2
      go_ret
      exact ⟨by rw [hE2.out] <;> rfl, HB⟩
set_option maxRecDepth 100000 in
theorem containsFuncE_c (g : Nat) (eg : ∀ args w, (callFunc g args).run Tryd.prog w = .ok (.enter g args) w) (p : S35 → Bool) (hp : EntPred g p) (A0 : Option Addr) (c0 : Nat) (l : List S35) (w : World)
    (hr : Kd.C k35 w A0 l.length l) (hI : ∀ x ∈ l, rngL x.f0 = true) :
    Calls Tryd.prog 34 #[.slice A0 l.length c0, .func (.func g) #[] #[]] w fun e w' => e = .returned (.bool (l.any p)) ∧ Below w.heap.size w w' := by
  have HH := hidF (indexFuncE_c g eg p hp A0 c0 l w hr hI)
  have hA := idxP_any p l 0 (by omega)
  clear hr hI
  have HA := hidF hA
  clear hA
  go_enter Tryd.func34, Tryd.ntmps34
  go_wp2_with (go_at_call 64; refine HH.out.mono ?_; rintro e w' ⟨rfl, hb⟩)
  go_ret
  exact ⟨by rw [← HA.out] <;> rfl, hb⟩
end Go.Proofs.YthpkjkcfhipjhaaDoor
end
section
namespace Go.Proofs.YthpkjkcfhipjhaaDoor
set_option linter.unusedVariables false
set_option linter.unusedSimpArgs false
open Go.RowKit Go.Proofs.YthpkjkcfhipjhaaDoorW.PrintWords Go.Proofs.YthpkjkcfhipjhaaDoorW.PrintLast PRW PZA
/-- the order of all rows by their bytes -/
def cT (a b : List S56) : Int := Lib.compareBytes (encR (a.map toV)) (encR (b.map toV))
theorem cT_ord : OrdC cT := ⟨fun _ _ => cb_anti _ _, fun _ _ _ => cb_trans _ _ _⟩
/-- rows that are sound and in range -/
def okR (a : List S56) : Bool := soundL a && rngL a
theorem okR_iff {a : List S56} : okR a = true ↔ soundL a = true ∧ rngL a = true := by unfold okR; simp
theorem cT_ls {a b : List S56} (ha : okR a = true) (hb : okR b = true) : cmpLS a b = cT a b := zcmp_cb (okR_iff.1 ha).1 (okR_iff.1 ha).2 (okR_iff.1 hb).1 (okR_iff.1 hb).2
theorem cT_same (a b : List S56) (ha : okR a = true) (hb : okR b = true) (h : cT a b = 0) : a = b :=
  (zcmp_same (okR_iff.1 ha).1 (okR_iff.1 ha).2 (okR_iff.1 hb).1 (okR_iff.1 hb).2).1 (by rw [cT_ls ha hb]; exact h)
def prE (x : S35) : List S56 × Int := (x.f0, x.f1)
def unE (p : List S56 × Int) : S35 := ⟨p.1, p.2⟩
/-- what Make makes of a list -/
def makeP (l : List S35) : List S35 × Int :=
  if l.all okE then (if (sums cT (l.map prE)).all (fun p => fair p.2) then ((nz (sums cT (l.map prE))).map unE, 0) else ([], 11)) else ([], 1)
section
variable {α : Type} {cf : α → α → Int}
theorem tw_of_take {β : Type} (p : β → Bool) : ∀ (l : List β) (k : Nat), (∀ y ∈ l.take k, p y = true) → (k = l.length ∨ ∃ z, l[k]? = some z ∧ p z = false) → l.takeWhile p = l.take k ∧ l.dropWhile p = l.drop k
  | [], k, _, _ => by simp
  | x :: t, 0, _, h => by
    rcases h with h | ⟨z, hz, e⟩
    · simp at h
    · simp at hz; subst hz; simp [e]
  | x :: t, k + 1, h1, h2 => by
    have hx := h1 x (by simp)
    obtain ⟨i1, i2⟩ := tw_of_take p t k (fun y hy => h1 y (by simp [hy])) (by
      rcases h2 with h | ⟨z, hz, e⟩
      · exact .inl (by simpa using h)
      · exact .inr ⟨z, by simpa using hz, e⟩)
    simp [hx, i1, i2]
theorem grp_step (O : OrdC cf) (x : α × Int) (t : List (α × Int)) (k : Nat) (hk : ∀ y ∈ (x :: t).take k, eqR cf x.1 y.1 = true) (he : k = (x :: t).length ∨ ∃ z, (x :: t)[k]? = some z ∧ eqR cf x.1 z.1 = false) :
    grp cf (x :: t) = (x.1, (((x :: t).take k).map (·.2)).sum) :: grp cf ((x :: t).drop k) ∧ 1 ≤ k := by
  have hx : eqR cf x.1 x.1 = true := decide_eq_true (by have := O.anti x.1 x.1; omega)
  have hk1 : 1 ≤ k := by
    rcases Nat.eq_zero_or_pos k with h | h
    · subst h
      rcases he with h | ⟨z, hz, e⟩
      · simp at h
      · simp at hz; subst hz; rw [hx] at e; cases e
    · exact h
  obtain ⟨i1, i2⟩ := tw_of_take (fun y : α × Int => eqR cf x.1 y.1) (x :: t) k hk he
  rw [List.takeWhile_cons, if_pos hx] at i1
  rw [List.dropWhile_cons, if_pos hx] at i2
  rw [grp_cons, i2, ← i1]
  exact ⟨by simp, hk1⟩
end
/-- in the midst of Make: done are the groups so far, from o on the rest -/
structure Mk (S Q : List (List S56 × Int)) (o : Nat) (zs : List S35) (done : List (List S56 × Int)) : Prop where
  all : S = done ++ grp cT (Q.drop o)
  fairs : done.all (fun p => fair p.2) = true
  made : zs = (nz done).map unE
  len : done.length ≤ o
theorem Mk.zlen {S Q : List (List S56 × Int)} {o : Nat} {zs : List S35} {done : List (List S56 × Int)} (h : Mk S Q o zs done) : zs.length ≤ o := by
  rw [h.made, List.length_map]
  exact Nat.le_trans (List.length_filter_le _ _) h.len
theorem Mk.start (Q : List (List S56 × Int)) : Mk (grp cT Q) Q 0 [] [] := ⟨by simp, rfl, rfl, Nat.le_refl _⟩
/-- within a group: k of the rest have been taken, s is their sum -/
structure Gr (Q : List (List S56 × Int)) (o k : Nat) (x : List S56) (s : Int) : Prop where
  eq : ∀ y ∈ (Q.drop o).take k, eqR cT x y.1 = true
  sum : s = (((Q.drop o).take k).map (·.2)).sum
  lo : -(k * 4611686018427387904) ≤ s
  hi : s ≤ k * 4611686018427387904
theorem Gr.start (Q : List (List S56 × Int)) (o : Nat) (x : List S56) : Gr Q o 0 x 0 := ⟨fun y hy => by simp at hy, by simp, by simp, by simp⟩
theorem fair_iff {w : Int} : fair w = true ↔ -4611686018427387904 ≤ w ∧ w ≤ 4611686018427387904 := by unfold fair; simp
theorem Gr.step {Q : List (List S56 × Int)} {o k : Nat} {x : List S56} {s : Int} (h : Gr Q o k x s) (y : List S56 × Int) (hy : Q[o + k]? = some y) (he : cT x y.1 = 0) (hf : fair y.2 = true) : Gr Q o (k + 1) x (s + y.2) := by
  have e : (Q.drop o).take (k + 1) = (Q.drop o).take k ++ [y] := by
    have hg : (Q.drop o)[k]? = some y := by rw [List.getElem?_drop]; exact hy
    obtain ⟨hlt, e⟩ := List.getElem?_eq_some_iff.1 hg
    rw [List.take_succ_eq_append_getElem hlt, e]
  obtain ⟨f1, f2⟩ := fair_iff.1 hf
  have h3 := h.lo; have h4 := h.hi
  refine ⟨fun z hz => ?_, ?_, ?_, ?_⟩
  · rw [e] at hz
    rcases List.mem_append.1 hz with hz | hz
    · exact h.eq z hz
    · rw [List.mem_singleton.1 hz]; exact decide_eq_true he
  · rw [e, h.sum]; simp
  · have : ((k + 1 : Nat) : Int) = k + 1 := by omega
    rw [this]; omega
  · have : ((k + 1 : Nat) : Int) = k + 1 := by omega
    rw [this]; omega
theorem Mk.step {S Q : List (List S56 × Int)} {o k : Nat} {zs : List S35} {done : List (List S56 × Int)} {x : List S56 × Int} {s : Int} (h : Mk S Q o zs done) (g : Gr Q o k x.1 s) (hx : Q[o]? = some x) (he : o + k = Q.length ∨ ∃ z, Q[o + k]? = some z ∧ cT x.1 z.1 ≠ 0) :
    S = done ++ (x.1, s) :: grp cT (Q.drop (o + k)) ∧ 1 ≤ k := by
  obtain ⟨hlt, e⟩ := List.getElem?_eq_some_iff.1 hx
  have hd : Q.drop o = x :: Q.drop (o + 1) := by rw [List.drop_eq_getElem_cons hlt, e]
  have hg := g.eq
  have hsum := g.sum
  rw [hd] at hg hsum
  obtain ⟨i1, i2⟩ := grp_step cT_ord x (Q.drop (o + 1)) k hg (by
    rw [← hd]
    rcases he with he | ⟨z, hz, en⟩
    · exact .inl (by rw [List.length_drop]; omega)
    · exact .inr ⟨z, by rw [List.getElem?_drop]; exact hz, decide_eq_false en⟩)
  refine ⟨?_, i2⟩
  rw [h.all, hd, i1, hsum, ← hd, List.drop_drop]
theorem Mk.take {S Q : List (List S56 × Int)} {o k : Nat} {zs : List S35} {done : List (List S56 × Int)} {r : List S56} {s : Int} (h : Mk S Q o zs done) (hs : S = done ++ (r, s) :: grp cT (Q.drop (o + k)) ∧ 1 ≤ k) (hf : fair s = true) :
    Mk S Q (o + k) (if s = 0 then zs else zs ++ [⟨r, s⟩]) (done ++ [(r, s)]) := by
  refine ⟨?_, ?_, ?_, ?_⟩
  · rw [hs.1]; simp
  · rw [List.all_append, h.fairs]; simp [hf]
  · unfold nz
    rw [List.filter_append, List.map_append, h.made]
    by_cases h0 : s = 0
    · rw [if_pos h0]; simp [h0, nz]
    · rw [if_neg h0]; simp [h0, nz, unE]
  · have := h.len; have := hs.2; simp; omega
theorem Mk.over {l : List S35} {Q : List (List S56 × Int)} {o k : Nat} {done : List (List S56 × Int)} {r : List S56} {s : Int} (hok : l.all okE = true) (hs : sums cT (l.map prE) = done ++ (r, s) :: grp cT (Q.drop (o + k)) ∧ 1 ≤ k) (hf : fair s = false) : makeP l = ([], 11) := by
  unfold makeP
  rw [hok, hs.1]
  have : (done ++ (r, s) :: grp cT (Q.drop (o + k))).all (fun p => fair p.2) = false := by
    rw [List.all_append, List.all_cons]; simp [hf]
  rw [this]; rfl
theorem Mk.done {l : List S35} {Q : List (List S56 × Int)} {o : Nat} {zs : List S35} {done : List (List S56 × Int)} (hok : l.all okE = true) (h : Mk (sums cT (l.map prE)) Q o zs done) (ho : Q.length ≤ o) : makeP l = (zs, 0) := by
  have e := h.all
  rw [List.drop_of_length_le ho, grp_nil, List.append_nil] at e
  unfold makeP
  rw [hok, e, h.fairs, h.made]; rfl
section
variable {w0 : World}
def Ent.pr (e : Ent w0) : List S56 × Int := (e.x.f0, e.x.f1)
theorem Ent.ok (e : Ent w0) : okR e.x.f0 = true := okR_iff.2 ⟨e.snd, e.rng⟩
theorem Ent.cfT (e f : Ent w0) : Ent.cf e f = cT e.x.f0 f.x.f0 := cT_ls e.ok f.ok
theorem pr_get (ys : List (Ent w0)) (i : Nat) (h : i < ys.length) : (ys.map Ent.pr)[i]? = some (gx ys i).pr := by
  rw [List.getElem?_map, List.getElem?_eq_getElem h, gx_at ys i h]; rfl
theorem sums_of (l : List S35) (xs ys : List (Ent w0)) (n : Nat) (hl : xs.map Ent.x = l) (hn : xs.length = n) (hs : Srt (leC Ent.cf) 0 n ys) (hm : Moved 0 n xs ys) : grp cT (ys.map Ent.pr) = sums cT (l.map prE) := by
  have e : l.map prE = xs.map Ent.pr := by rw [← hl, List.map_map]; rfl
  refine grp_sums cT_ord okR cT_same ?_ ?_ ?_
  · rw [e]; exact hm.perm.map _
  · rw [SrtL, List.pairwise_map, List.pairwise_iff_getElem]
    intro i j hi hj hij
    have h1 := hm.len
    have := hs i j (Nat.zero_le _) hij (by omega)
    rw [gx_at ys i hi, gx_at ys j hj] at this
    have h2 : Ent.cf ys[i] ys[j] ≤ 0 := this
    rw [Ent.cfT] at h2
    exact h2
  · intro x hx
    rw [e] at hx
    obtain ⟨y, _, rfl⟩ := List.mem_map.1 hx
    exact y.ok
end
end Go.Proofs.YthpkjkcfhipjhaaDoor
end
section
namespace Go.Proofs.YthpkjkcfhipjhaaDoor
set_option linter.unusedVariables false
set_option linter.unusedSimpArgs false
open Go.RowKit Go.Proofs.YthpkjkcfhipjhaaDoorW.PrintWords Go.Proofs.YthpkjkcfhipjhaaDoorW.PrintLast PRW PZA
theorem rd_atE (L : List S35) (i : Nat) (h : i < L.length) : rd_T35 L (i : Int) = L[i] := by unfold rd_T35; simp [h]
instance : DecidableEq S35 := fun x y => decidable_of_iff (x.f0 = y.f0 ∧ x.f1 = y.f1) (by
  cases x; cases y; simp)
/-- all numbers are such as the machine has -/
def rngE (l : List S35) : Bool := l.all fun x => rngL x.f0 && decide (-9223372036854775808 ≤ x.f1) && decide (x.f1 ≤ 9223372036854775807)
theorem rngE_at {l : List S35} (h : rngE l = true) : ∀ x ∈ l, rngL x.f0 = true ∧ I64 x.f1 := fun x hx => by
  have := List.all_eq_true.1 h x hx
  simp [and_assoc] at this
  exact this
theorem rngE_of {l : List S35} (h : ∀ x ∈ l, rngL x.f0 = true ∧ I64 x.f1) : rngE l = true := List.all_eq_true.2 fun x hx => by
  obtain ⟨h1, h2, h3⟩ := h x hx
  simp [h1, h2, h3]
/-- how long the rows are at most -/
def shortE (l : List S35) : Prop := l.length ≤ 1000000 ∧ ∀ x ∈ l, x.f0.length ≤ 9223372036854775807
theorem zsame_ev (l m : List S35) (hl : shortE l) : Ev (fun k => freshetref03_Same.f k l m) (decide (l = m)) := by
  by_cases hlen : l.length = m.length
  · have main : ∀ d i : Nat, i + d = l.length → l.take i = m.take i → Ev (fun k => freshetref03_Same.l0 k l m (i : Int)) (decide (l = m)) := by
      intro d
      induction d with
      | zero =>
        intro i hi ht
        have he : l = m := by
          rw [List.take_of_length_le (by omega), List.take_of_length_le (by omega)] at ht; exact ht
        rw [decide_eq_true he]
        refine Ev.step (f := fun _ => some true) (fun k => ?_) (Ev.now _)
        simp only [freshetref03_Same.l0]
        rw [if_neg (by omega)]
      | succ d ih =>
        intro i hi ht
        have h1 : i < l.length := by omega
        have h2 : i < m.length := by omega
        have hll := hl.1
        by_cases hw : l[i].f1 = m[i].f1
        · have hs := same_ev l[i].f0 m[i].f0 (hl.2 _ (List.getElem_mem h1))
          by_cases hx : l[i].f0 = m[i].f0
          · rw [decide_eq_true hx] at hs
            have hxx : l[i] = m[i] := by
              cases hA : l[i]; cases hB : m[i]; rw [hA, hB] at hw hx; simp at hw hx; rw [hw, hx]
            refine Ev.step (f := fun k => (freshetref02_Same.f k l[i].f0 m[i].f0).bind fun t => if t = true then freshetref03_Same.l0 k l m ((i + 1 : Nat) : Int) else some false) (fun k => ?_) (Ev.bind hs ?_)
            · simp only [freshetref03_Same.l0]
              rw [if_pos (by omega), if_pos (by omega), if_pos (by omega), rd_atE l i h1, rd_atE m i h2, if_pos hw, w64k (by omega) (by omega)]
              rfl
            · simp only [if_true]
              exact ih (i + 1) (by omega) (by rw [List.take_succ_eq_append_getElem h1, List.take_succ_eq_append_getElem h2, ht, hxx])
          · rw [decide_eq_false hx] at hs
            have hne : l ≠ m := by rintro rfl; exact hx rfl
            rw [decide_eq_false hne]
            refine Ev.step (f := fun k => (freshetref02_Same.f k l[i].f0 m[i].f0).bind fun t => if t = true then freshetref03_Same.l0 k l m ((i + 1 : Nat) : Int) else some false) (fun k => ?_) (Ev.bind hs ?_)
            · simp only [freshetref03_Same.l0]
              rw [if_pos (by omega), if_pos (by omega), if_pos (by omega), rd_atE l i h1, rd_atE m i h2, if_pos hw, w64k (by omega) (by omega)]
              rfl
            · simp only [Bool.false_eq_true, if_false]
              exact Ev.now _
        · have hne : l ≠ m := by rintro rfl; exact hw rfl
          rw [decide_eq_false hne]
          refine Ev.step (f := fun _ => some false) (fun k => ?_) (Ev.now _)
          simp only [freshetref03_Same.l0]
          rw [if_pos (by omega), if_pos (by omega), if_pos (by omega), rd_atE l i h1, rd_atE m i h2, if_neg hw]
    have := main l.length 0 (by omega) (by simp)
    refine Ev.congr (fun k => ?_) this
    simp only [freshetref03_Same.f]
    rw [if_pos (by omega)]; rfl
  · have hne : l ≠ m := by rintro rfl; exact hlen rfl
    rw [decide_eq_false hne]
    refine Ev.congr (f := fun _ => some false) (fun k => ?_) (Ev.now _)
    simp only [freshetref03_Same.f]
    rw [if_neg (by omega)]
theorem isFair_f (a : Int) : zset_isFair.f a = some (fair a) := by
  unfold zset_isFair.f fair
  split
  · rename_i h; rw [decide_eq_true h]; rfl
  · rename_i h; rw [decide_eq_false h]; rfl
/-- what Sound asks at a place -/
def gdE (l : List S35) (i : Nat) : Bool :=
  let x := rd_T35 l i
  !(x.f1 == 0) && (okE x && (i == 0 || decide (cmpLS (rd_T35 l ((i - 1 : Nat) : Int)).f0 x.f0 < 0)))
/-- whether a list is a multiset -/
def soundZ (l : List S35) : Bool := (List.range' 0 l.length).all (gdE l)
theorem zsound_ev (l : List S35) (hr : ∀ x ∈ l, rngL x.f0 = true) (hl : l.length ≤ 1000000) : Ev (fun k => zset_Sound.f k l) (soundZ l) := by
  have main : ∀ d i : Nat, i + d = l.length → Ev (fun k => zset_Sound.l0 k l l (l.length : Int) (i : Int)) ((List.range' i d).all (gdE l)) := by
    intro d
    induction d with
    | zero =>
      intro i hi
      refine Ev.step (f := fun _ => some true) (fun k => ?_) (Ev.now _)
      simp only [zset_Sound.l0]
      rw [if_neg (by omega)]
    | succ d ih =>
      intro i hi
      have h1 : i < l.length := by omega
      have hrd := rd_atE l i h1
      have hx := hr _ (List.getElem_mem h1)
      rw [← hrd] at hx
      rw [List.range'_succ, List.all_cons]
      have gen : ∀ b : Bool, gdE l i = b → (b = true → Ev (fun k => zset_Sound.l0 k l l (l.length : Int) ((i + 1 : Nat) : Int)) ((List.range' (i + 1) d).all (gdE l))) → Ev (fun k => zset_Sound.l0 k l l (l.length : Int) (i : Int)) (b && (List.range' (i + 1) d).all (gdE l)) := by
        intro b hb hnext
        by_cases hw : (rd_T35 l (i : Int)).f1 = 0
        · have : b = false := by rw [← hb]; unfold gdE; simp [hw]
          rw [this]
          refine Ev.step (f := fun _ => some false) (fun k => ?_) (Ev.now _)
          simp only [zset_Sound.l0]
          rw [if_pos (by omega), if_pos (by omega), if_pos (by omega), if_pos hw]
        · cases hf : fair (rd_T35 l (i : Int)).f1
          · have : b = false := by rw [← hb]; unfold gdE okE; simp [hf]
            rw [this]
            refine Ev.step (f := fun _ => some false) (fun k => ?_) (Ev.now _)
            simp only [zset_Sound.l0]
            rw [if_pos (by omega), if_pos (by omega), if_pos (by omega), if_neg hw, isFair_f, hf]
            rfl
          · cases hs : soundL (rd_T35 l (i : Int)).f0
            · have : b = false := by rw [← hb]; unfold gdE okE; simp [hs]
              rw [this]
              refine Ev.step (f := fun _ => some false) (fun k => ?_) (Ev.now _)
              simp only [zset_Sound.l0]
              rw [if_pos (by omega), if_pos (by omega), if_pos (by omega), if_neg hw, isFair_f, hf]
              unfold xRowSound.f
              rw [if_pos hx, hs]
              rfl
            · rcases Nat.eq_zero_or_pos i with h0 | h0
              · have hbt : b = true := by rw [← hb]; unfold gdE okE; simp [hw, hf, hs, h0]; rw [h0] at hw hf hs; simpa using ⟨hw, hf, hs⟩
                rw [hbt, Bool.true_and]
                refine Ev.step (fun k => ?_) (hnext hbt)
                simp only [zset_Sound.l0]
                rw [if_pos (by omega), if_pos (by omega), if_pos (by omega), if_neg hw, isFair_f, hf]
                unfold xRowSound.f
                rw [if_pos hx, hs]
                simp only [Option.bind_some, if_true]
                rw [if_neg (by omega), w64k (by omega) (by omega)]
                rfl
              · have hi1 : i - 1 < l.length := by omega
                have hp := hr _ (List.getElem_mem hi1)
                rw [← rd_atE l (i - 1) hi1] at hp
                have hz : (i == 0) = false := by simp; omega
                by_cases hc : cmpLS (rd_T35 l ((i - 1 : Nat) : Int)).f0 (rd_T35 l (i : Int)).f0 < 0
                · have hbt : b = true := by
                    rw [← hb]; unfold gdE okE
                    simp only [hz, hs, hf, decide_eq_true hc, Bool.and_true, Bool.or_true, Bool.true_and, Bool.false_or]
                    simpa using hw
                  rw [hbt, Bool.true_and]
                  refine Ev.step (fun k => ?_) (hnext hbt)
                  simp only [zset_Sound.l0]
                  rw [if_pos (by omega), if_pos (by omega), if_pos (by omega), if_neg hw, isFair_f, hf]
                  unfold xRowSound.f
                  rw [if_pos hx, hs]
                  simp only [Option.bind_some, if_true]
                  rw [if_pos (by omega), w64k (n := (i : Int) - 1) (by omega) (by omega), show (i : Int) - 1 = ((i - 1 : Nat) : Int) by omega, if_pos (by omega), if_pos (by omega)]
                  unfold zset_byRow.f xRowCompare.f
                  rw [if_pos ⟨hp, hx⟩]
                  simp only [Option.bind_some]
                  rw [if_neg (by omega), w64k (by omega) (by omega)]
                  rfl
                · have hbt : b = false := by
                    rw [← hb]; unfold gdE
                    simp only [hz, decide_eq_false hc, Bool.or_false, Bool.and_false]
                  rw [hbt]
                  refine Ev.step (f := fun _ => some false) (fun k => ?_) (Ev.now _)
                  simp only [zset_Sound.l0]
                  rw [if_pos (by omega), if_pos (by omega), if_pos (by omega), if_neg hw, isFair_f, hf]
                  unfold xRowSound.f
                  rw [if_pos hx, hs]
                  simp only [Option.bind_some, if_true]
                  rw [if_pos (by omega), w64k (n := (i : Int) - 1) (by omega) (by omega), show (i : Int) - 1 = ((i - 1 : Nat) : Int) by omega, if_pos (by omega), if_pos (by omega)]
                  unfold zset_byRow.f xRowCompare.f
                  rw [if_pos ⟨hp, hx⟩]
                  simp only [Option.bind_some]
                  rw [if_pos (by omega)]
      exact gen _ rfl fun _ => ih (i + 1) (by omega)
  exact Ev.congr (fun k => rfl) (main l.length 0 (by omega))
theorem zSound_c (A0 : Option Addr) (c0 : Nat) (l : List S35) (w : World) (hr0 : Kd.C k35 w A0 l.length l) (hc0 : l.length ≤ c0) (hr : ∀ x ∈ l, rngL x.f0 = true) (hl : l.length ≤ 1000000) :
    Calls Tryd.prog 11 #[.slice A0 l.length c0] w fun e w' => e = .returned (.bool (soundZ l)) ∧ Below w.heap.size w w' := by
  obtain ⟨k, hk⟩ := zsound_ev l hr hl
  exact zset_Sound.calls _ A0 c0 l _ w hr0 hc0 (hk _ (Nat.le_refl _))
/-- a multiset: rows in order, each once, with fair weights -/
theorem soundZ_iff (l : List S35) (hr : ∀ x ∈ l, rngL x.f0 = true) : soundZ l = true ↔ (∀ x ∈ l, x.f1 ≠ 0 ∧ okE x = true) ∧ Zst cT (l.map prE) := by
  unfold soundZ
  rw [List.all_eq_true]
  have hok : ∀ x ∈ l, okE x = true → okR x.f0 = true := fun x hx h => okR_iff.2 ⟨by unfold okE at h; simp at h; exact h.2, hr x hx⟩
  constructor
  · intro h
    have g : ∀ i (hi : i < l.length), l[i].f1 ≠ 0 ∧ okE l[i] = true ∧ (0 < i → cmpLS (rd_T35 l ((i - 1 : Nat) : Int)).f0 l[i].f0 < 0) := fun i hi => by
      have := h i (by simp; omega)
      unfold gdE at this
      simp only [rd_atE l i hi, Bool.and_eq_true, Bool.or_eq_true, Bool.not_eq_true', beq_eq_false_iff_ne, decide_eq_true_eq, beq_iff_eq] at this
      exact ⟨this.1, this.2.1, fun h0 => this.2.2.resolve_left (by omega)⟩
    refine ⟨fun x hx => ?_, ?_⟩
    · obtain ⟨i, hi, rfl⟩ := List.mem_iff_getElem.1 hx
      exact ⟨(g i hi).1, (g i hi).2.1⟩
    · have k : ∀ i (hi : i < l.length), okR l[i].f0 = true := fun i hi => hok _ (List.getElem_mem hi) (g i hi).2.1
      have step : ∀ i (hi : i + 1 < l.length), cT l[i].f0 l[i + 1].f0 < 0 := fun i hi => by
        have := (g (i + 1) hi).2.2 (by omega)
        rw [show i + 1 - 1 = i by omega, rd_atE l i (by omega), cT_ls (k i (by omega)) (k (i + 1) hi)] at this
        exact this
      rw [Zst, List.pairwise_map, List.pairwise_iff_getElem]
      intro i j hi hj hij
      show cT l[i].f0 l[j].f0 < 0
      obtain ⟨d, rfl⟩ : ∃ d, j = i + 1 + d := ⟨j - i - 1, by omega⟩
      clear hij
      induction d with
      | zero => exact step i hj
      | succ d ih =>
        have h1 := ih (by omega)
        exact cT_ord.lt_tr h1 (by have := step (i + 1 + d) hj; show cT l[i + 1 + d].f0 l[i + 1 + (d + 1)].f0 ≤ 0; exact Int.le_of_lt this)
  · rintro ⟨h1, h2⟩ i hi
    have hi : i < l.length := by simpa using hi
    unfold gdE
    simp only [rd_atE l i hi]
    obtain ⟨a1, a2⟩ := h1 _ (List.getElem_mem hi)
    simp only [Bool.and_eq_true, Bool.or_eq_true, Bool.not_eq_true', beq_eq_false_iff_ne, decide_eq_true_eq, beq_iff_eq]
    refine ⟨a1, a2, ?_⟩
    rcases Nat.eq_zero_or_pos i with h0 | h0
    · exact .inl h0
    · right
      have hi1 : i - 1 < l.length := by omega
      rw [rd_atE l (i - 1) hi1, cT_ls (hok _ (List.getElem_mem hi1) (h1 _ (List.getElem_mem hi1)).2) (hok _ (List.getElem_mem hi) a2)]
      rw [Zst, List.pairwise_map, List.pairwise_iff_getElem] at h2
      exact h2 (i - 1) i hi1 hi (by omega)
end Go.Proofs.YthpkjkcfhipjhaaDoor
end
section
namespace Go.Proofs.YthpkjkcfhipjhaaDoor
set_option linter.unusedVariables false
set_option linter.unusedSimpArgs false
open Go.RowKit Go.Proofs.YthpkjkcfhipjhaaDoorW.PrintWords Go.Proofs.YthpkjkcfhipjhaaDoorW.PrintLast PRW PZA
theorem SB.grown {w0 W w1 : World} {b : Nat} {xs : List (Ent w0)} {row : Option Nat} (h : SB w0 b xs W) (hb : Below w0.heap.size w0 w1) (hg : W.grownBy w1 row) (hr : some b ≠ row) : SB w0 b xs w1 :=
  ⟨hb, h.new, h.blk.elim fun r e => ⟨r, (hg.block b h.lt hr).trans e⟩⟩
def MakeOut (l : List S35) (w : World) (e : Ending) (w' : World) : Prop :=
  ∃ v0, e = .returned (.tuple #[v0, .int .i64 (makeP l).2]) ∧ Kd.R k35 35 w' w.heap.size (fun _ => True) v0 (makeP l).1 ∧ Below w.heap.size w w'
theorem MakeOut.of {l : List S35} {w w' : World} {v0 : Value} {r1 : List S35} {r2 : Int} (h : makeP l = (r1, r2)) (hR : Kd.R k35 35 w' w.heap.size (fun _ => True) v0 r1) (hb : Below w.heap.size w w') : MakeOut l w (.returned (.tuple #[v0, .int .i64 r2])) w' :=
  ⟨v0, by rw [h], by rw [h]; exact hR, hb⟩
theorem below_undrew' {W w1 : World} (h : Below W.drew.heap.size W.drew w1) : Below W.heap.size W w1 := below_undrew h
theorem row_len {a : List S56} (h : soundL a = true) : a.length ≤ 1000000 := by
  unfold soundL at h; simp at h; omega
theorem any_okE (l : List S35) : (l.any fun x => !okE x) = !l.all okE := by rw [List.all_eq_not_any_not]; simp
set_option maxRecDepth 100000 in
set_option maxHeartbeats 4000000 in
theorem make_no (A0 : Option Addr) (c0 : Nat) (l : List S35) (w : World) (hr : Kd.C k35 w A0 l.length l) (hR : ∀ x ∈ l, rngL x.f0 = true ∧ I64 x.f1) (hok : l.all okE = false) :
    Calls Tryd.prog 15 #[.slice A0 l.length c0] w (MakeOut l w) := by
  have CF := containsFuncE_c 35 enter_make1 _ make1_c A0 c0 l w hr (fun x hx => (hR x hx).1)
  rw [any_okE, hok] at CF
  have HC := hidF CF
  have HM : Hid (makeP l = ([], 1)) := hidF (by unfold makeP; rw [hok]; rfl)
  clear CF hok hr hR
  go_enter Tryd.func15, Tryd.ntmps15
  go_wp2_with (go_at_call 34; ((with_reducible refine HC.out.mono ?_); rintro e w1 ⟨rfl, hb⟩))
  go_ret2
  exact MakeOut.of HM.out (Kd.R_nil _ _ _ _ _) hb
set_option maxRecDepth 100000 in
set_option maxHeartbeats 4000000 in
theorem make_nil (A0 : Option Addr) (c0 : Nat) (w : World) : Calls Tryd.prog 15 #[.slice A0 0 c0] w (MakeOut [] w) := by
  have hr0 : Kd.C k35 w A0 0 ([] : List S35) := ⟨rfl, by decide, fun h => absurd h (Nat.lt_irrefl 0)⟩
  have CF := containsFuncE_c 35 enter_make1 _ make1_c A0 c0 [] w hr0 (fun x hx => absurd hx List.not_mem_nil)
  have HC : Hid (Calls Tryd.prog 34 #[.slice A0 0 c0, .func (.func 35) #[] #[]] w fun e w' => e = .returned (.bool false) ∧ Below w.heap.size w w') := hidF CF
  have CC : Hid (∀ W, Calls Tryd.prog 36 #[.slice A0 0 c0] W fun e w' => ∃ A c, e = .returned (.slice A 0 c) ∧ Below W.heap.size W w') := hidF fun W =>
    (cloneEnt_c (w0 := W) A0 c0 0 W (Below.refl _ _) [] rfl ⟨rfl, by decide, fun h => absurd h (Nat.lt_irrefl 0)⟩ (by omega)).mono fun e w' ⟨A, c, h1, _, _, h2⟩ => ⟨A, c, h1, h2⟩
  have HM : Hid (makeP [] = ([], 0)) := hidF (by unfold makeP sums; simp [grp_nil, nz])
  clear CF hr0
  go_enter Tryd.func15, Tryd.ntmps15
  go_wp2_with (first
    | (go_at_call 34; ((with_reducible refine HC.out.mono ?_); rintro e w1 ⟨rfl, hb1⟩))
    | (go_at_call 36; ((with_reducible refine (CC.out _).mono ?_); rintro e w2 ⟨A, c, rfl, hb2⟩))
    | (go_at_call 37; ((with_reducible refine (sort0 _ _ _).mono ?_); rintro e w3 ⟨rfl, rfl⟩)))
  go_loop [4, 5] (fun v4 v5 => v4 = Value.slice A 0 c ∧ v5 = Value.slice none 0 0) (fun _ _ => 0)
  case atStart => exact ⟨rfl, rfl⟩
  case round =>
    obtain ⟨rfl, rfl⟩ := hrel
    go_wp2
    go_ret2
    exact MakeOut.of HM.out (Kd.R_nil _ _ _ _ _) (hb1.trans (hb2.mono hb1.size))
set_option maxRecDepth 1000000 in
set_option maxHeartbeats 16000000 in
theorem make_yes (A0 : Option Addr) (c0 : Nat) (l : List S35) (w : World) (hr : Kd.C k35 w A0 l.length l) (hl : l.length ≤ 1000000) (hl0 : 0 < l.length) (hR : ∀ x ∈ l, rngL x.f0 = true ∧ I64 x.f1) (hok : l.all okE = true) :
    Calls Tryd.prog 15 #[.slice A0 l.length c0] w (MakeOut l w) := by
  have hu := Tryd.underlying35
  have hu2 := Tryd.underlying67
  have CF := containsFuncE_c 35 enter_make1 _ make1_c A0 c0 l w hr (fun x hx => (hR x hx).1)
  rw [any_okE, hok] at CF
  have HC := hidF CF
  obtain ⟨xs, hxs, hraw⟩ := ents_of hr hR (fun x hx => by have := List.all_eq_true.1 hok x hx; unfold okE at this; simp at this; exact this.2)
  have hxl : xs.length = l.length := by rw [← hxs, List.length_map]
  have FAIR : Hid (∀ ys : List (Ent w), ys.Perm xs → ∀ i, i < ys.length → fair (gx ys i).x.f1 = true) := hidF fun ys hp i hi => by
    have hm : (gx ys i).x ∈ l := by rw [← hxs]; exact List.mem_map_of_mem (hp.mem_iff.1 (by rw [gx_at ys i hi]; exact List.getElem_mem hi))
    have := List.all_eq_true.1 hok _ hm
    unfold okE at this; simp at this; exact this.1
  have HOK := hidF hok
  obtain ⟨n, hn⟩ : ∃ n, l.length = n := ⟨_, rfl⟩
  rw [hn] at HC hl hl0 hraw hxl
  have HXS := hidF hxs
  have HXL := hidF hxl
  have CC : Hid (∀ W, Below w.heap.size w W → Calls Tryd.prog 36 #[.slice A0 n c0] W fun e w' => ∃ b c, e = .returned (.slice (some ⟨b, 0, none⟩) n c) ∧ n ≤ c ∧ SB w b xs w' ∧ Below W.heap.size W w') := hidF fun W hW =>
    (cloneEnt_c (w0 := w) A0 c0 n W hW xs hxl (Kd.C_below hraw hW) hl).mono fun e w' ⟨A, c, h1, h2, h3, h4⟩ => by
      obtain ⟨b, rfl, h5⟩ := h3 hl0
      exact ⟨b, c, h1, h2, h5, h4⟩
  rw [hn]
  clear CF hok hr hR hn hraw hxs hxl
  go_enter Tryd.func15, Tryd.ntmps15
  go_wp2_with (first
    | (go_at_call 34; ((with_reducible refine HC.out.mono ?_); rintro e w1 ⟨rfl, hb1⟩; have HB1 := hidF hb1; clear hb1))
    | (go_at_call 36; ((with_reducible refine (CC.out _ HB1.out).mono ?_); rintro e w2 ⟨b, c, rfl, hc, hsb, hb2⟩; have HC2 := hidF hc; have HS2 := hidF hsb; clear hc hsb hb2))
    | (go_at_call 37; ((with_reducible refine (sort_c b c xs n HXL.out _ HS2.out hl).mono ?_); rintro e w3 ⟨rfl, ys, k1, k2, k3⟩; have HS3 := hidF k1; have HQ := hidF (sums_of l xs ys n HXS.out HXL.out k2 k3); have HF := hidF (FAIR.out ys k3.perm); have HYL := hidF (k3.len.trans HXL.out); clear k1 k2 k3)))
  clear HS2 FAIR HXS HXL HC CC HB1
  have hcn := HC2.out
  have hw3 := HS3.out.bel.size
  go_loopw [4, 5] (fun v4 v5 wr => ∃ (o cp : Nat) (A : Option Addr) (zs : List S35), v4 = Value.slice A (n - o) cp ∧ o ≤ n ∧ n - o ≤ cp ∧ Hid (o < n → A = some ⟨b, o * 2, none⟩) ∧ Hid (SB w b ys wr) ∧ Hid (Kd.R k35 35 wr w.heap.size (fun k => k ≠ b) v5 zs) ∧ Hid (∃ done, Mk (sums cT (l.map prE)) (ys.map Ent.pr) o zs done)) (fun v4 _ _ => match v4 with | .slice _ m _ => m | _ => 0)
  case atStart => exact ⟨0, c, some ⟨b, 0, none⟩, [], rfl, by omega, by omega, hidF (fun _ => rfl), HS3, hidF (Kd.R_nil _ _ _ _ _), hidF ⟨[], by rw [← HQ.out]; exact Mk.start _⟩⟩
  case round =>
    clear HS3
    obtain ⟨W0, rfl⟩ : ∃ W0, W0 = wr := ⟨_, rfl⟩
    obtain ⟨o, cp, A, zs, rfl, hon, hcp, HA, HB, HZ, HG⟩ := hrel
    by_cases hlt : o < n
    · obtain rfl : A = some ⟨b, o * 2, none⟩ := HA.out hlt
      clear HA
      obtain ⟨m, hm⟩ : ∃ m, n - o = m := ⟨_, rfl⟩
      have hom : o + m = n := by omega
      have hm0 : 0 < m := by omega
      rw [hm] at hcp
      rw [hm]
      have hyl := HYL.out
      have ho : o < ys.length := by omega
      obtain ⟨p, hp⟩ : ∃ p, o * 2 = p := ⟨_, rfl⟩
      rw [hp]
      obtain ⟨xo, hxo⟩ : ∃ x, gx ys o = x := ⟨_, rfl⟩
      have gm1 : decide (0 < m) = true := decide_eq_true hm0
      have gm2 : decide ((0 : Int) < (m : Int)) = true := decide_eq_true (by omega)
      have HOM := hidF hom
      have HP := hidF hp
      have HXO := hidF hxo
      have HYL2 := hidF hyl
      clear hom hm hp hxo hyl
      go_wp2
      go_loopw [7] (fun v7 w2 => ∃ (k : Nat) (s : Int), v7 = Value.int .i64 k ∧ k ≤ m ∧ Hid (Below W0.heap.size W0 w2) ∧ Hid (w2.heap[W0.heap.size]? = some (.cells #[.int .i64 (s / 18446744073709551616), .int .u64 (s % 18446744073709551616)] 67 (0, 0))) ∧ Hid (Gr (ys.map Ent.pr) o k xo.x.f0 s)) (fun v7 _ => m - natOf v7)
      case atStart => exact ⟨0, 0, rfl, by omega, hidF ((Below.refl _ _).alloc (Nat.le_refl _) _), hidF (heap_alloc_new W0 _), hidF (Gr.start _ _ _)⟩
      case round =>
        obtain ⟨w2, rfl⟩ : ∃ w2, w2 = wr := ⟨_, rfl⟩
        obtain ⟨k, s, rfl, hkm, HW, HSm, HGr⟩ := hrel
        have HB2 := hidF (HB.out.below HW.out)
        have hom := HOM.out
        have hp := HP.out
        have hxo := HXO.out
        have hyl := HYL2.out
        have hC0 : Below w2.heap.size w2 { w2 with drawn := w2.drawn + 1 } := (Below.refl _ _).drew
        have gk0 : 0 ≤ (k : Int) := by omega
        by_cases hcont : k < m ∧ cT xo.x.f0 (gx ys (o + k)).x.f0 = 0
        · obtain ⟨hkm2, hcc⟩ := hcont
          have hok1 : o + k < ys.length := by omega
          obtain ⟨xk, hxk⟩ : ∃ x, gx ys (o + k) = x := ⟨_, rfl⟩
          rw [hxk] at hcc
          obtain ⟨pk, hpk'⟩ : ∃ q, p + k * 2 = q := ⟨_, rfl⟩
          have hpk : (o + k) * 2 = p + k * 2 := by omega
          have hd1 : decide ((k : Int) < (m : Int)) = true := decide_eq_true (by omega)
          have hd2 : decide (k < m) = true := decide_eq_true hkm2
          have hd3 : (k : Int) < (m : Int) := by omega
          rw [← Ent.cfT] at hcc
          have hcd1 : (Ent.cf xo xk == 0) = true := by rw [hcc]; rfl
          have hcd2 : decide (Ent.cf xo xk = 0) = true := decide_eq_true hcc
          have HCC := hidF hcc
          clear hcc hpk'
          go_wp2_with fail
          refine zregion (C := fun W => Below w2.heap.size w2 W) (by kernel_rfl) (by kernel_rfl) hC0 ?_
          clear hC0
          repeat (first
            | go_big_quiet_skip
            | (go_big_quiet_want; first
                | (go_big_quiet_op; go_big_quiet_on)
                | (apply Exists.intro
                   refine ⟨fun w' hw' => ?_, ?_⟩
                   · (have HC := Lib.hid hw'
                      have hsb := HB2.out.below hw'
                      have HSBB := hidF hsb
                      have i0 := hsb.c0 o ho
                      have i1 := hsb.c1 o ho
                      have j0 := hsb.c0 (o + k) hok1
                      have j1 := hsb.c1 (o + k) hok1
                      rw [hxo, hp] at i0 i1
                      rw [hxk, hpk] at j0 j1
                      clear hw' hsb
                      go_simp
                      first
                        | exact rfl
                        | ((with_reducible refine (byRow_c _ _ _ HSBB.out.bel).mono ?_); rintro e w'' ⟨rfl, hb⟩; exact ⟨rfl, HC.out.trans (hb.mono HC.out.size)⟩))
                   go_simp
                   go_big_quiet_on)))
          refine wpQuiet_nil ?_
          intro w3' hw3'
          have HW3 := hidF hw3'
          clear hw3'
          obtain ⟨sh, hsh⟩ : ∃ q, s / 18446744073709551616 = q := ⟨_, rfl⟩
          obtain ⟨sl, hsl⟩ : ∃ q, s % 18446744073709551616 = q := ⟨_, rfl⟩
          obtain ⟨th, hth⟩ : ∃ q, (s + xk.x.f1) / 18446744073709551616 = q := ⟨_, rfl⟩
          obtain ⟨tl, htl⟩ : ∃ q, (s + xk.x.f1) % 18446744073709551616 = q := ⟨_, rfl⟩
          have hlo := HGr.out.lo
          have hhi := HGr.out.hi
          have HADD := hidF (fun W => add_c s xk.x.f1 sh sl th tl hsh hsl hth htl (by omega) xk.fair W)
          have HG3 : Hid (w3'.heap[W0.heap.size]? = some (.cells #[.int .i64 sh, .int .u64 sl] 67 (0, 0))) := hidF (by rw [← hsh, ← hsl]; exact (HW3.out.block _ (heap_lt HSm.out)).trans HSm.out)
          have HGr2 : Hid (Gr (ys.map Ent.pr) o (k + 1) xo.x.f0 (s + xk.x.f1)) := hidF (HGr.out.step xk.pr (by rw [← hxk]; exact pr_get ys _ hok1) (by rw [← HCC.out, Ent.cfT]; rfl) (by have := HF.out (o + k) hok1; rw [hxk] at this; exact this))
          have HTH := hidF hth
          have HTL := hidF htl
          have HB3 := hidF (HB2.out.below HW3.out)
          have j1 := HB3.out.c1 (o + k) hok1
          rw [hxk, hpk] at j1
          have s0 : w3'.cell? ⟨W0.heap.size, 0, none⟩ = some (.int .i64 sh) := (blk_cell HG3.out 0).trans rfl
          have s1 : w3'.cell? ⟨W0.heap.size, 1, none⟩ = some (.int .u64 sl) := (blk_cell HG3.out 1).trans rfl
          have sf0 := blk_frozen HG3.out 0
          have sf1 := blk_frozen HG3.out 1
          have hgl := heap_lt HG3.out
          have hbl := HB3.out.lt
          have v9 : IntKind.i64.wrap ((k : Int) + 1) = ((k + 1 : Nat) : Int) := by clear hsh hsl hth htl; rw [IntKind.wrap_i64]; omega
          clear hsh hsl hth htl hlo hhi hom hp hxo hyl hpk hcd1 hcd2
          go_wp2_with fail
          go_region_with (go_at_call 38; ((with_reducible refine (HADD.out _).mono ?_); rintro e w4 ⟨rfl, hb4⟩; have HB4 := hidF (below_undrew' hb4); have HG4 := hidF ((HB4.out.block _ hgl).trans HG3.out); have s40 : w4.cell? ⟨W0.heap.size, 0, none⟩ = some (.int .i64 sh) := (blk_cell HG4.out 0).trans rfl; have s41 : w4.cell? ⟨W0.heap.size, 1, none⟩ = some (.int .u64 sl) := (blk_cell HG4.out 1).trans rfl; have sf40 := blk_frozen HG4.out 0; have sf41 := blk_frozen HG4.out 1; have hgl4 := heap_lt HG4.out; clear hb4))
          all_goals
            go_wp2
            go_roundw
            case rel => exact ⟨k + 1, s + xk.x.f1, by go_num, by omega, hidF (((HW.out.trans ((HW3.out.trans (HB4.out.mono HW3.out.size)).mono HW.out.size)).setCell (Nat.le_refl _) _).setCell (Nat.le_refl _) _), hidF (by rw [HTH.out, HTL.out]; exact blk_put (cs := #[.int .i64 th, .int .u64 sl]) (blk_put (cs := #[.int .i64 sh, .int .u64 sl]) HG4.out 0 _ rfl) 1 _ rfl), HGr2⟩
            case measure => simp [natOf]; omega
        · have HE : Hid (o + k = (ys.map Ent.pr).length ∨ ∃ z, (ys.map Ent.pr)[o + k]? = some z ∧ cT xo.pr.1 z.1 ≠ 0) := hidF (by
            by_cases h : k < m
            · refine .inr ⟨_, pr_get ys (o + k) (by omega), fun e => hcont ⟨h, e⟩⟩
            · refine .inl ?_
              rw [List.length_map]; omega)
          have HX : Hid (xo.pr = (xo.x.f0, xo.x.f1)) := hidF rfl
          clear hcont
          obtain ⟨sh, hsh⟩ : ∃ q, s / 18446744073709551616 = q := ⟨_, rfl⟩
          obtain ⟨sl, hsl⟩ : ∃ q, s % 18446744073709551616 = q := ⟨_, rfl⟩
          have hlo := HGr.out.lo
          have hhi := HGr.out.hi
          have HWT := hidF (fun W => weight_c s sh sl hsh hsl (by omega) W)
          have HG2 : Hid (w2.heap[W0.heap.size]? = some (.cells #[.int .i64 sh, .int .u64 sl] 67 (0, 0))) := hidF (by rw [← hsh, ← hsl]; exact HSm.out)
          have HMS : Hid (∀ zs' : List S35, ∀ done, Mk (sums cT (l.map prE)) (ys.map Ent.pr) o zs' done → sums cT (l.map prE) = done ++ (xo.x.f0, s) :: grp cT ((ys.map Ent.pr).drop (o + k)) ∧ 1 ≤ k) := hidF fun zs' done hd => hd.step (x := xo.pr) HGr.out (by rw [← hxo]; exact pr_get ys o (by omega)) HE.out
          have HK1 : Hid (1 ≤ k) := hidF (by obtain ⟨done, hd⟩ := HG.out; exact (HMS.out zs done hd).2)
          clear hsh hsl hlo hhi hyl
          by_cases hkm2 : k < m
          · have hok1 : o + k < ys.length := by have := HYL2.out; omega
            obtain ⟨xk, hxk⟩ : ∃ x, gx ys (o + k) = x := ⟨_, rfl⟩
            have hpk : (o + k) * 2 = p + k * 2 := by omega
            have hd1 : decide ((k : Int) < (m : Int)) = true := decide_eq_true (by omega)
            have hd2 : decide (k < m) = true := decide_eq_true hkm2
            have hd3 : (k : Int) < (m : Int) := by omega
            have hcc : Ent.cf xo xk ≠ 0 := by
              rcases HE.out with e | ⟨z, hz, en⟩
              · rw [List.length_map] at e; omega
              · rw [pr_get ys _ hok1, hxk] at hz
                cases hz
                rw [Ent.cfT]; exact en
            have hcd1 : (Ent.cf xo xk == 0) = false := beq_eq_false_iff_ne.2 hcc
            have hcd2 : decide (Ent.cf xo xk = 0) = false := decide_eq_false hcc
            clear hcc
            go_wp2_with fail
            refine zregion (C := fun W => Below w2.heap.size w2 W) (by kernel_rfl) (by kernel_rfl) hC0 ?_
            clear hC0
            repeat (first
              | go_big_quiet_skip
              | (go_big_quiet_want; first
                  | (go_big_quiet_op; go_big_quiet_on)
                  | (apply Exists.intro
                     refine ⟨fun w' hw' => ?_, ?_⟩
                     · (have HC := Lib.hid hw'
                        have hsb := HB2.out.below hw'
                        have HSBB := hidF hsb
                        have i0 := hsb.c0 o ho
                        have i1 := hsb.c1 o ho
                        have j0 := hsb.c0 (o + k) hok1
                        have j1 := hsb.c1 (o + k) hok1
                        rw [hxo, hp] at i0 i1
                        rw [hxk, hpk] at j0 j1
                        clear hw' hsb
                        go_simp
                        first
                          | exact rfl
                          | ((with_reducible refine (byRow_c _ _ _ HSBB.out.bel).mono ?_); rintro e w'' ⟨rfl, hb⟩; exact ⟨rfl, HC.out.trans (hb.mono HC.out.size)⟩))
                     go_simp
                     go_big_quiet_on)))
            refine wpQuiet_nil ?_
            intro w3' hw3'
            have HW3 := hidF hw3'
            clear hw3'
            clear hcd1 hcd2 hd1 hd2 hd3 hxk hpk hok1
            clear hom hp hxo
            have HG3 : Hid (w3'.heap[W0.heap.size]? = some (.cells #[.int .i64 sh, .int .u64 sl] 67 (0, 0))) := hidF ((HW3.out.block _ (heap_lt HG2.out)).trans HG2.out)
            have s0 : w3'.cell? ⟨W0.heap.size, 0, none⟩ = some (.int .i64 sh) := (blk_cell HG3.out 0).trans rfl
            have s1 : w3'.cell? ⟨W0.heap.size, 1, none⟩ = some (.int .u64 sl) := (blk_cell HG3.out 1).trans rfl
            have hgl := heap_lt HG3.out
            have HB03 := hidF (HW.out.trans (HW3.out.mono HW.out.size))
            have HBs3 := hidF (HB2.out.below HW3.out)
            cases hfr : fair s
            · have HM : Hid (makeP l = ([], 11)) := hidF (by obtain ⟨done, hd⟩ := HG.out; exact Mk.over HOK.out (HMS.out zs done hd) hfr)
              have HWT2 : Hid (∀ W, Calls Tryd.prog 39 #[.agg #[.int .i64 sh, .int .u64 sl]] W fun e w' => ∃ r, e = .returned (.tuple #[.int .i64 r, .bool false]) ∧ Below W.heap.size W w') := hidF fun W => by
                have := HWT.out W; rw [hfr] at this
                exact this.mono fun e w' ⟨r, h1, _, h2⟩ => ⟨r, h1, h2⟩
              clear hfr HWT
              go_wp2_with (go_at_call 39; ((with_reducible refine (HWT2.out _).mono ?_); rintro e w5 ⟨r, rfl, hb5⟩; have HB5 := hidF hb5; clear hb5))
              go_ret2
              exact MakeOut.of HM.out (Kd.R_nil _ _ _ _ _) (HBs3.out.bel.trans (HB5.out.mono HBs3.out.bel.size))
            · have HFR := hidF hfr
              have HWT2 : Hid (∀ W, Calls Tryd.prog 39 #[.agg #[.int .i64 sh, .int .u64 sl]] W fun e w' => e = .returned (.tuple #[.int .i64 s, .bool true]) ∧ Below W.heap.size W w') := hidF fun W => by
                have := HWT.out W; rw [hfr] at this
                exact this.mono fun e w' ⟨r, h1, h2, h3⟩ => ⟨by rw [h1, h2 rfl], h3⟩
              clear hfr HWT
              have hkl : (k : Int) ≤ (m : Int) := by omega
              have hkc : (k : Int) ≤ (cp : Int) := by omega
              have HZL : Hid (zs.length ≤ 1000000) := hidF (by obtain ⟨done, hd⟩ := HG.out; have := hd.zlen; omega)
              by_cases hcap : k = cp
              · exfalso; omega
              · have hcapD : decide (k = cp) = false := decide_eq_false hcap
                have hkcI : (k : Int) < (cp : Int) := by omega
                have HM2 : Hid (∃ done, Mk (sums cT (l.map prE)) (ys.map Ent.pr) (o + k) (if s = 0 then zs else zs ++ [⟨xo.x.f0, s⟩]) done) := hidF (by obtain ⟨done, hd⟩ := HG.out; exact ⟨_, Mk.take hd (HMS.out zs done hd) HFR.out⟩)
                by_cases hs0 : s = 0
                · rw [if_pos hs0] at HM2
                  have hsb : (s != 0) = false := by rw [hs0]; rfl
                  have hsb2 : decide (s = 0) = true := decide_eq_true hs0
                  have HZ0 := hidF hs0
                  clear hs0
                  go_wp2_with (go_at_call 39; ((with_reducible refine (HWT2.out _).mono ?_); rintro e w5 ⟨rfl, hb5⟩; have HB5 := hidF hb5; clear hb5))
                  have HB05 := hidF (HB03.out.trans (HB5.out.mono HB03.out.size))
                  go_roundw
                  case rel => exact ⟨o + k, _, _, zs, by rw [show n - (o + k) = m - k by have := HOM.out; omega], by have := HOM.out; omega, by have := HOM.out; omega, hidF (fun hlt2 => by rw [show (o + k) * 2 = p + k * 2 by have := HP.out; omega]), hidF (HB.out.below HB05.out), hidF (Kd.R_below HZ.out HB05.out), HM2⟩
                  case measure => have := HK1.out; show m - k < m; omega
                · rw [if_neg hs0] at HM2
                  have hsb : (s != 0) = true := bne_iff_ne.2 hs0
                  have hsb2 : decide (s = 0) = false := decide_eq_false hs0
                  have HZ0 := hidF hs0
                  clear hs0
                  go_wp2_with (first
                    | (go_at_call 39; ((with_reducible refine (HWT2.out _).mono ?_); rintro e w5 ⟨rfl, hb5⟩; have HB5 := hidF hb5; clear hb5; have HB05 := hidF (HB03.out.trans (HB5.out.mono HB03.out.size)); have HS5 := hidF (HB.out.below HB05.out); have hsz5 := HS5.out.lt; have i05 := HS5.out.c0 o ho; rw [HXO.out, HP.out] at i05; have HZ5 := hidF (Kd.R_below HZ.out HB05.out)))
                    | (go_at_call 40; ((with_reducible refine (cloneRow_c _ _ xo.x.f0 _ (Kd.C_below xo.lies HS5.out.bel) (row_len xo.snd)).mono ?_); rintro e w6 ⟨v6, rfl, ho6, hb6⟩; have HO6 := hidF ho6; have HB6 := hidF hb6; clear ho6 hb6; have HS6 := hidF (HS5.out.below HB6.out); have HZ6 := hidF (Kd.R_below HZ5.out HB6.out); obtain ⟨A6, c6, e6⟩ := Kd.R_slice HO6.out; subst e6))
                    | ((with_reducible refine gate_builtin (b := .append) (xs := #[.tmp 52, .tmp 60]) rfl ?_); at_builtin; refine Kd.R_append k35 (w0 := w) w.heap.size rfl (.tmp 52) (.tmp 60) 23 35 (.agg #[(.slice none 0 0), (.int .i64 0)]) 32 rfl Tryd.underlying23 infoE rfl (by decide) (by omega) u5 zs (⟨xo.x.f0, s⟩ : S35) [.slice A6 xo.x.f0.length c6, .int .i64 s] (fun k => k ≠ b) (fun k => k ≠ b ∧ some k ≠ (u5 : Value).ownBlock) rfl rfl ?aP (fun _ hk => hk) ?aF ?aO ?aB ?aS ?aL ?_; (case aP => exact k35_mkM _ _ _ (⟨xo.x.f0, s⟩ : S35) (Kd.R_lower (Kd.R_mono (Kd.R_bound HO6.out) (fun k hk => ⟨fun e => by have := hk.2.1; omega, fun e => by have := Kd.R_lt HZ5.out k e.symm; have := hk.2.1; omega⟩)) HS5.out.bel.size)); (case aB => exact HS6.out.bel); (case aF => exact fun k hk e => by have := HS6.out.lt; omega); (case aO => exact HZ6.out); (case aS => exact HS6.out.bel.size); (case aL => have hzl := HZL.out; omega); intro v7 w7 ho7 hb7 hg7 hat7; have HO7 := hidF ho7; have HB7 := hidF hb7; have HS7 := hidF (HS6.out.grown hb7 hg7 (fun e => (HZ6.out.1 b e.symm) rfl)); clear ho7 hb7 hg7 hat7))
                  go_roundw
                  case rel => exact ⟨o + k, _, _, zs ++ [⟨xo.x.f0, s⟩], by rw [show n - (o + k) = m - k by have := HOM.out; omega], by have := HOM.out; omega, by have := HOM.out; omega, hidF (fun hlt2 => by rw [show (o + k) * 2 = p + k * 2 by have := HP.out; omega]), HS7, HO7, HM2⟩
                  case measure => have := HK1.out; show m - k < m; omega
          · have hd1 : decide ((k : Int) < (m : Int)) = false := decide_eq_false (by omega)
            have hd2 : decide (k < m) = false := decide_eq_false hkm2
            have hd3 : ¬ (k : Int) < (m : Int) := by omega
            go_wp2_with fail
            refine zregion (C := fun W => Below w2.heap.size w2 W) (by kernel_rfl) (by kernel_rfl) hC0 ?_
            clear hC0
            repeat (first
              | go_big_quiet_skip
              | (go_big_quiet_want; first
                  | (go_big_quiet_op; go_big_quiet_on)
                  | (apply Exists.intro
                     refine ⟨fun w' hw' => ?_, ?_⟩
                     · (have HC := Lib.hid hw'
                        have hsb := HB2.out.below hw'
                        have HSBB := hidF hsb
                        have i0 := hsb.c0 o ho
                        have i1 := hsb.c1 o ho
                        rw [hxo, hp] at i0 i1
                        clear hw' hsb
                        go_simp
                        first
                          | exact rfl
                          | ((with_reducible refine (byRow_c _ _ _ HSBB.out.bel).mono ?_); rintro e w'' ⟨rfl, hb⟩; exact ⟨rfl, HC.out.trans (hb.mono HC.out.size)⟩))
                     go_simp
                     go_big_quiet_on)))
            refine wpQuiet_nil ?_
            intro w3' hw3'
            have HW3 := hidF hw3'
            clear hw3'
            clear hom hp hxo hd1 hd2 hd3
            have HG3 : Hid (w3'.heap[W0.heap.size]? = some (.cells #[.int .i64 sh, .int .u64 sl] 67 (0, 0))) := hidF ((HW3.out.block _ (heap_lt HG2.out)).trans HG2.out)
            have s0 : w3'.cell? ⟨W0.heap.size, 0, none⟩ = some (.int .i64 sh) := (blk_cell HG3.out 0).trans rfl
            have s1 : w3'.cell? ⟨W0.heap.size, 1, none⟩ = some (.int .u64 sl) := (blk_cell HG3.out 1).trans rfl
            have hgl := heap_lt HG3.out
            have HB03 := hidF (HW.out.trans (HW3.out.mono HW.out.size))
            have HBs3 := hidF (HB2.out.below HW3.out)
            cases hfr : fair s
            · have HM : Hid (makeP l = ([], 11)) := hidF (by obtain ⟨done, hd⟩ := HG.out; exact Mk.over HOK.out (HMS.out zs done hd) hfr)
              have HWT2 : Hid (∀ W, Calls Tryd.prog 39 #[.agg #[.int .i64 sh, .int .u64 sl]] W fun e w' => ∃ r, e = .returned (.tuple #[.int .i64 r, .bool false]) ∧ Below W.heap.size W w') := hidF fun W => by
                have := HWT.out W; rw [hfr] at this
                exact this.mono fun e w' ⟨r, h1, _, h2⟩ => ⟨r, h1, h2⟩
              clear hfr HWT
              go_wp2_with (go_at_call 39; ((with_reducible refine (HWT2.out _).mono ?_); rintro e w5 ⟨r, rfl, hb5⟩; have HB5 := hidF hb5; clear hb5))
              go_ret2
              exact MakeOut.of HM.out (Kd.R_nil _ _ _ _ _) (HBs3.out.bel.trans (HB5.out.mono HBs3.out.bel.size))
            · have HFR := hidF hfr
              have HWT2 : Hid (∀ W, Calls Tryd.prog 39 #[.agg #[.int .i64 sh, .int .u64 sl]] W fun e w' => e = .returned (.tuple #[.int .i64 s, .bool true]) ∧ Below W.heap.size W w') := hidF fun W => by
                have := HWT.out W; rw [hfr] at this
                exact this.mono fun e w' ⟨r, h1, h2, h3⟩ => ⟨by rw [h1, h2 rfl], h3⟩
              clear hfr HWT
              have hkl : (k : Int) ≤ (m : Int) := by omega
              have hkc : (k : Int) ≤ (cp : Int) := by omega
              have HZL : Hid (zs.length ≤ 1000000) := hidF (by obtain ⟨done, hd⟩ := HG.out; have := hd.zlen; omega)
              by_cases hcap : k = cp
              · subst hcap
                have HM2 : Hid (∃ done, Mk (sums cT (l.map prE)) (ys.map Ent.pr) (o + k) (if s = 0 then zs else zs ++ [⟨xo.x.f0, s⟩]) done) := hidF (by obtain ⟨done, hd⟩ := HG.out; exact ⟨_, Mk.take hd (HMS.out zs done hd) HFR.out⟩)
                by_cases hs0 : s = 0
                · rw [if_pos hs0] at HM2
                  have hsb : (s != 0) = false := by rw [hs0]; rfl
                  have hsb2 : decide (s = 0) = true := decide_eq_true hs0
                  have HZ0 := hidF hs0
                  clear hs0
                  go_wp2_with (go_at_call 39; ((with_reducible refine (HWT2.out _).mono ?_); rintro e w5 ⟨rfl, hb5⟩; have HB5 := hidF hb5; clear hb5))
                  have HB05 := hidF (HB03.out.trans (HB5.out.mono HB03.out.size))
                  go_roundw
                  case rel => exact ⟨o + k, _, _, zs, by rw [show n - (o + k) = 0 by have := HOM.out; omega], by have := HOM.out; omega, by have := HOM.out; omega, hidF (fun hlt2 => by exfalso; have := HOM.out; omega), hidF (HB.out.below HB05.out), hidF (Kd.R_below HZ.out HB05.out), HM2⟩
                  case measure => have := HK1.out; first | (show m - k < m; omega) | (show 0 < m; omega)
                · rw [if_neg hs0] at HM2
                  have hsb : (s != 0) = true := bne_iff_ne.2 hs0
                  have hsb2 : decide (s = 0) = false := decide_eq_false hs0
                  have HZ0 := hidF hs0
                  clear hs0
                  go_wp2_with (first
                    | (go_at_call 39; ((with_reducible refine (HWT2.out _).mono ?_); rintro e w5 ⟨rfl, hb5⟩; have HB5 := hidF hb5; clear hb5; have HB05 := hidF (HB03.out.trans (HB5.out.mono HB03.out.size)); have HS5 := hidF (HB.out.below HB05.out); have hsz5 := HS5.out.lt; have i05 := HS5.out.c0 o ho; rw [HXO.out, HP.out] at i05; have HZ5 := hidF (Kd.R_below HZ.out HB05.out)))
                    | (go_at_call 40; ((with_reducible refine (cloneRow_c _ _ xo.x.f0 _ (Kd.C_below xo.lies HS5.out.bel) (row_len xo.snd)).mono ?_); rintro e w6 ⟨v6, rfl, ho6, hb6⟩; have HO6 := hidF ho6; have HB6 := hidF hb6; clear ho6 hb6; have HS6 := hidF (HS5.out.below HB6.out); have HZ6 := hidF (Kd.R_below HZ5.out HB6.out); obtain ⟨A6, c6, e6⟩ := Kd.R_slice HO6.out; subst e6))
                    | ((with_reducible refine gate_builtin (b := .append) (xs := #[.tmp 52, .tmp 60]) rfl ?_); at_builtin; refine Kd.R_append k35 (w0 := w) w.heap.size rfl (.tmp 52) (.tmp 60) 23 35 (.agg #[(.slice none 0 0), (.int .i64 0)]) 32 rfl Tryd.underlying23 infoE rfl (by decide) (by omega) u5 zs (⟨xo.x.f0, s⟩ : S35) [.slice A6 xo.x.f0.length c6, .int .i64 s] (fun k => k ≠ b) (fun k => k ≠ b ∧ some k ≠ (u5 : Value).ownBlock) rfl rfl ?aP (fun _ hk => hk) ?aF ?aO ?aB ?aS ?aL ?_; (case aP => exact k35_mkM _ _ _ (⟨xo.x.f0, s⟩ : S35) (Kd.R_lower (Kd.R_mono (Kd.R_bound HO6.out) (fun k hk => ⟨fun e => by have := hk.2.1; omega, fun e => by have := Kd.R_lt HZ5.out k e.symm; have := hk.2.1; omega⟩)) HS5.out.bel.size)); (case aB => exact HS6.out.bel); (case aF => exact fun k hk e => by have := HS6.out.lt; omega); (case aO => exact HZ6.out); (case aS => exact HS6.out.bel.size); (case aL => have hzl := HZL.out; omega); intro v7 w7 ho7 hb7 hg7 hat7; have HO7 := hidF ho7; have HB7 := hidF hb7; have HS7 := hidF (HS6.out.grown hb7 hg7 (fun e => (HZ6.out.1 b e.symm) rfl)); clear ho7 hb7 hg7 hat7))
                  go_roundw
                  case rel => exact ⟨o + k, _, _, zs ++ [⟨xo.x.f0, s⟩], by rw [show n - (o + k) = 0 by have := HOM.out; omega], by have := HOM.out; omega, by have := HOM.out; omega, hidF (fun hlt2 => by exfalso; have := HOM.out; omega), HS7, HO7, HM2⟩
                  case measure => have := HK1.out; first | (show m - k < m; omega) | (show 0 < m; omega)
              · have hcapD : decide (k = cp) = false := decide_eq_false hcap
                have hkcI : (k : Int) < (cp : Int) := by omega
                have HM2 : Hid (∃ done, Mk (sums cT (l.map prE)) (ys.map Ent.pr) (o + k) (if s = 0 then zs else zs ++ [⟨xo.x.f0, s⟩]) done) := hidF (by obtain ⟨done, hd⟩ := HG.out; exact ⟨_, Mk.take hd (HMS.out zs done hd) HFR.out⟩)
                by_cases hs0 : s = 0
                · rw [if_pos hs0] at HM2
                  have hsb : (s != 0) = false := by rw [hs0]; rfl
                  have hsb2 : decide (s = 0) = true := decide_eq_true hs0
                  have HZ0 := hidF hs0
                  clear hs0
                  go_wp2_with (go_at_call 39; ((with_reducible refine (HWT2.out _).mono ?_); rintro e w5 ⟨rfl, hb5⟩; have HB5 := hidF hb5; clear hb5))
                  have HB05 := hidF (HB03.out.trans (HB5.out.mono HB03.out.size))
                  go_roundw
                  case rel => exact ⟨o + k, _, _, zs, by rw [show n - (o + k) = m - k by have := HOM.out; omega], by have := HOM.out; omega, by have := HOM.out; omega, hidF (fun hlt2 => by rw [show (o + k) * 2 = p + k * 2 by have := HP.out; omega]), hidF (HB.out.below HB05.out), hidF (Kd.R_below HZ.out HB05.out), HM2⟩
                  case measure => have := HK1.out; show m - k < m; omega
                · rw [if_neg hs0] at HM2
                  have hsb : (s != 0) = true := bne_iff_ne.2 hs0
                  have hsb2 : decide (s = 0) = false := decide_eq_false hs0
                  have HZ0 := hidF hs0
                  clear hs0
                  go_wp2_with (first
                    | (go_at_call 39; ((with_reducible refine (HWT2.out _).mono ?_); rintro e w5 ⟨rfl, hb5⟩; have HB5 := hidF hb5; clear hb5; have HB05 := hidF (HB03.out.trans (HB5.out.mono HB03.out.size)); have HS5 := hidF (HB.out.below HB05.out); have hsz5 := HS5.out.lt; have i05 := HS5.out.c0 o ho; rw [HXO.out, HP.out] at i05; have HZ5 := hidF (Kd.R_below HZ.out HB05.out)))
                    | (go_at_call 40; ((with_reducible refine (cloneRow_c _ _ xo.x.f0 _ (Kd.C_below xo.lies HS5.out.bel) (row_len xo.snd)).mono ?_); rintro e w6 ⟨v6, rfl, ho6, hb6⟩; have HO6 := hidF ho6; have HB6 := hidF hb6; clear ho6 hb6; have HS6 := hidF (HS5.out.below HB6.out); have HZ6 := hidF (Kd.R_below HZ5.out HB6.out); obtain ⟨A6, c6, e6⟩ := Kd.R_slice HO6.out; subst e6))
                    | ((with_reducible refine gate_builtin (b := .append) (xs := #[.tmp 52, .tmp 60]) rfl ?_); at_builtin; refine Kd.R_append k35 (w0 := w) w.heap.size rfl (.tmp 52) (.tmp 60) 23 35 (.agg #[(.slice none 0 0), (.int .i64 0)]) 32 rfl Tryd.underlying23 infoE rfl (by decide) (by omega) u5 zs (⟨xo.x.f0, s⟩ : S35) [.slice A6 xo.x.f0.length c6, .int .i64 s] (fun k => k ≠ b) (fun k => k ≠ b ∧ some k ≠ (u5 : Value).ownBlock) rfl rfl ?aP (fun _ hk => hk) ?aF ?aO ?aB ?aS ?aL ?_; (case aP => exact k35_mkM _ _ _ (⟨xo.x.f0, s⟩ : S35) (Kd.R_lower (Kd.R_mono (Kd.R_bound HO6.out) (fun k hk => ⟨fun e => by have := hk.2.1; omega, fun e => by have := Kd.R_lt HZ5.out k e.symm; have := hk.2.1; omega⟩)) HS5.out.bel.size)); (case aB => exact HS6.out.bel); (case aF => exact fun k hk e => by have := HS6.out.lt; omega); (case aO => exact HZ6.out); (case aS => exact HS6.out.bel.size); (case aL => have hzl := HZL.out; omega); intro v7 w7 ho7 hb7 hg7 hat7; have HO7 := hidF ho7; have HB7 := hidF hb7; have HS7 := hidF (HS6.out.grown hb7 hg7 (fun e => (HZ6.out.1 b e.symm) rfl)); clear ho7 hb7 hg7 hat7))
                  go_roundw
                  case rel => exact ⟨o + k, _, _, zs ++ [⟨xo.x.f0, s⟩], by rw [show n - (o + k) = m - k by have := HOM.out; omega], by have := HOM.out; omega, by have := HOM.out; omega, hidF (fun hlt2 => by rw [show (o + k) * 2 = p + k * 2 by have := HP.out; omega]), HS7, HO7, HM2⟩
                  case measure => have := HK1.out; show m - k < m; omega
    · have hno : n - o = 0 := by omega
      rw [hno]
      have HM : Hid (makeP l = (zs, 0)) := hidF (by
        obtain ⟨done, hd⟩ := HG.out
        exact Mk.done HOK.out hd (by rw [List.length_map]; have := HYL.out; omega))
      go_wp2
      go_ret2
      exact MakeOut.of HM.out (Kd.R_mono HZ.out (fun _ _ => trivial)) HB.out.bel
theorem make_c (A0 : Option Addr) (c0 : Nat) (l : List S35) (w : World) (hr : Kd.C k35 w A0 l.length l) (hl : l.length ≤ 1000000) (hR : ∀ x ∈ l, rngL x.f0 = true ∧ I64 x.f1) :
    Calls Tryd.prog 15 #[.slice A0 l.length c0] w (MakeOut l w) := by
  cases hok : l.all okE
  · exact make_no A0 c0 l w hr hR hok
  · rcases Nat.eq_zero_or_pos l.length with h0 | h0
    · obtain rfl := List.eq_nil_of_length_eq_zero h0
      exact make_nil A0 c0 w
    · exact make_yes A0 c0 l w hr hl h0 hR hok
end Go.Proofs.YthpkjkcfhipjhaaDoor
end
section
namespace Go.Proofs.YthpkjkcfhipjhaaDoor
set_option linter.unusedVariables false
set_option linter.unusedSimpArgs false
open Go.RowKit Go.Proofs.YthpkjkcfhipjhaaDoorW.PrintWords Go.Proofs.YthpkjkcfhipjhaaDoorW.PrintLast PRW PZA
def GrownE (w : World) (e : Ending) (w' : World) : Prop := ∃ v, e = .returned v ∧ Kd.R kRaw2 35 w' w.heap.size (fun _ => True) v [] ∧ Below w.heap.size w w'
set_option maxRecDepth 100000 in
set_option maxHeartbeats 4000000 in
theorem grow0_c (w : World) : Calls Tryd.prog 63 #[.slice none 0 0, .int .i64 0] w (GrownE w) := by
  go_enter Tryd.func63, Tryd.ntmps63
  go_wp2
  go_ret
  exact ⟨_, rfl, Kd.R_nil _ _ _ _ _, Below.refl _ _⟩
set_option maxRecDepth 100000 in
set_option maxHeartbeats 4000000 in
theorem grow1_c (n : Nat) (h0 : 0 < n) (hn : n ≤ 4000000) (w : World) : Calls Tryd.prog 63 #[.slice none 0 0, .int .i64 n] w (GrownE w) := by
  obtain ⟨i0, hi, hz⟩ := Option.map_eq_some_iff.1 infoE
  simp only [Prod.mk.injEq] at hz
  obtain ⟨hz0, hz1, hz2⟩ := hz
  have h1 : ¬ ((n : Int) < 0) := by omega
  have h4 : (n : Int) > 0 := by omega
  have h5 : (0 : Int) < n := by omega
  obtain ⟨G, hG⟩ : ∃ G, G = grownCap w n 0 35 := ⟨_, rfl⟩
  have hGn : n ≤ G := by rw [hG]; exact grownCap_ge w _ _ _
  have hG63 : G ≤ 9223372036854775807 := by
    have := grownCap_le_maxLen w n 0 35 (by unfold maxLen; omega)
    rw [← hG] at this
    unfold maxLen at this
    omega
  have hrz : ∀ ty, (Builtin.append_ #[23, 3] ty #[.slice none 0 0, .int .i64 (n : Int)]).run Tryd.prog w =
      .ok (.slice (some ⟨w.heap.size, 0, none⟩) n G) (w.drew.alloc (.cells (#[] ++ Builtin.zeroCells (Value.agg #[.slice none 0 0, .int .i64 0]).cells n ++ Builtin.zeroCells (Value.agg #[.slice none 0 0, .int .i64 0]).cells (G - n)) 35)) := fun ty => by
    have h := Lib.run_append_grow_zeros w 23 3 ty 35 i0 (.agg #[.slice none 0 0, .int .i64 0]) .i64 .i64 Tryd.underlying23 Tryd.underlying3 hi hz0 none 0 0 [] (run_firstCells_none w.drew i0.size 0 0 0) n h0 (by rw [hz1]; decide) (by omega) (by omega) (by rw [hz2]; omega)
      (growslice_fits (by omega) (by rw [hz2]; omega))
    rw [Nat.zero_add, ← hG] at h
    exact h
  have HG := hidF hG
  clear hG hi hz0 hz1 hz2
  obtain ⟨M, hM⟩ : ∃ M, M = #[] ++ Builtin.zeroCells (Value.agg #[.slice none 0 0, .int .i64 0]).cells n ++ Builtin.zeroCells (Value.agg #[.slice none 0 0, .int .i64 0]).cells (G - n) := ⟨_, rfl⟩
  have HM : Hid (M.size = G * 2) := hidF (by
    rw [hM]
    simp [Builtin.zeroCells, Value.cells]
    omega)
  rw [← hM] at hrz
  clear hM
  go_enter Tryd.func63, Tryd.ntmps63
  go_wp2_with (at_builtin; refine Lib.wpList_append_run _ rfl _ _ _ _ rfl _ _ rfl rfl _ _ (hrz _) ?_)
  go_ret
  refine ⟨_, rfl, ⟨fun _ _ => trivial, [], ?_, Reps.none _ _⟩, (Below.refl _ _).drew.alloc (by simp) _⟩
  refine ⟨rfl, .inr ⟨w.heap.size, G, M, rfl, Nat.le_refl _, heap_alloc_new w.drew _, Nat.zero_le _, by unfold maxLen; omega, HM.out, by simp⟩⟩
theorem grow_c (n : Nat) (hn : n ≤ 4000000) (w : World) : Calls Tryd.prog 63 #[.slice none 0 0, .int .i64 n] w (GrownE w) := by
  rcases Nat.eq_zero_or_pos n with h | h
  · subst h; exact grow0_c w
  · exact grow1_c n h hn w
end Go.Proofs.YthpkjkcfhipjhaaDoor
end
section
namespace Go.Proofs.YthpkjkcfhipjhaaDoor
set_option linter.unusedVariables false
set_option linter.unusedSimpArgs false
open Go.RowKit Go.Proofs.YthpkjkcfhipjhaaDoorW.PrintWords Go.Proofs.YthpkjkcfhipjhaaDoorW.PrintLast PRW PZA
theorem raws_of {W : World} {A : Option Addr} {l : List S35} (hC : Kd.C k35 W A l.length l) :
    ∃ Y : List (CellV × CellV), Y.length = l.length ∧ Kd.C kRaw2 W A l.length Y ∧ ∀ (i : Nat) (x : S35) (p : CellV × CellV), l[i]? = some x → Y[i]? = some p → k35.K W x [p.1.val, p.2.val] := by
  obtain ⟨h1, h2, h3⟩ := hC
  rcases Nat.eq_zero_or_pos l.length with h0 | h0
  · obtain rfl := List.eq_nil_of_length_eq_zero h0
    exact ⟨[], rfl, ⟨rfl, h2, fun h => absurd h (by simp)⟩, fun i x p hx => by simp at hx⟩
  · obtain ⟨ad, rfl, hc⟩ := h3 h0
    haveI : Inhabited (CellV × CellV) := ⟨(⟨.int .i64 0, rfl⟩, ⟨.int .i64 0, rfl⟩)⟩
    have key : ∀ i, i < l.length → ∃ p : CellV × CellV, (∀ x, l[i]? = some x → k35.K W x [p.1.val, p.2.val]) ∧ ∀ j u, [p.1.val, p.2.val][j]? = some u → W.cell? (ad.add (i * 2 + j)) = some u := by
      intro i hi
      have hg := List.getElem?_eq_getElem hi
      obtain ⟨c, _, hK, hcell⟩ := hc i _ hg
      obtain ⟨A0, c0, rfl, hle, hK0⟩ := k35_open hK
      refine ⟨(⟨.slice A0 l[i].f0.length c0, rfl⟩, ⟨.int .i64 l[i].f1, rfl⟩), fun x hx => ?_, hcell⟩
      rw [hg] at hx
      cases hx
      exact hK
    obtain ⟨F, hF⟩ := choose_ltE key
    refine ⟨(List.range l.length).map F, by simp, ⟨by simp, h2, fun _ => ⟨ad, rfl, fun j p hj => ?_⟩⟩, fun i x p hx hp => ?_⟩
    · have hjl : j < l.length := by
        have := (List.getElem?_eq_some_iff.1 hj).1
        simpa using this
      have : p = F j := by simpa [hjl] using hj.symm
      subst this
      exact ⟨_, rfl, kRaw2_mk _ _, (hF j hjl).2⟩
    · have hil : i < l.length := (List.getElem?_eq_some_iff.1 hx).1
      have : p = F i := by simpa [hil] using hp.symm
      subst this
      exact (hF i hil).1 x hx
theorem C_of_raws {W : World} {A : Option Addr} {l : List S35} {Y : List (CellV × CellV)} (h : Kd.C kRaw2 W A l.length Y) (hY : Y.length = l.length) (hK : ∀ (i : Nat) (x : S35) (p : CellV × CellV), l[i]? = some x → Y[i]? = some p → k35.K W x [p.1.val, p.2.val]) : Kd.C k35 W A l.length l := by
  obtain ⟨h1, h2, h3⟩ := h
  refine ⟨rfl, h2, fun h0 => ?_⟩
  obtain ⟨ad, e, hc⟩ := h3 h0
  refine ⟨ad, e, fun j x hx => ?_⟩
  have hj : j < Y.length := by rw [hY]; exact (List.getElem?_eq_some_iff.1 hx).1
  obtain ⟨c, hs, hp, hcell⟩ := hc j _ (List.getElem?_eq_getElem hj)
  obtain rfl : c = [Y[j].1.val, Y[j].2.val] := kRaw2_M (w := W) (base := 0) (ok := fun _ => True) (kRaw2_KM hp)
  exact ⟨_, rfl, hK j x _ hx (List.getElem?_eq_getElem hj), hcell⟩
def Rel1 (n0 n : Nat) (v3 v11 : Value) : Prop := (v11 = .int .i64 0 ∧ v3 = .int .i64 0) ∨ (v11 = .int .i64 1 ∧ v3 = .int .i64 n0) ∨ (v11 = .int .i64 2 ∧ v3 = .int .i64 n)
def Rel2 (Y0 Y1 : List (CellV × CellV)) (v27 : Value) (X : List (CellV × CellV)) : Prop := (v27 = .int .i64 0 ∧ X = []) ∨ (v27 = .int .i64 1 ∧ X = Y0) ∨ (v27 = .int .i64 2 ∧ X = Y0 ++ Y1)
def ConcOut (Y : List (CellV × CellV)) (w : World) (e : Ending) (w' : World) : Prop := ∃ v, e = .returned v ∧ Kd.R kRaw2 35 w' w.heap.size (fun _ => True) v Y ∧ Below w.heap.size w w'
set_option maxRecDepth 100000 in
set_option maxHeartbeats 8000000 in
theorem concat_c (h : Nat) (A0 A1 : Option Addr) (n0 c0 n1 c1 : Nat) (Y0 Y1 : List (CellV × CellV)) (w : World) (e0 : w.cell? ⟨h, 0, none⟩ = some (.slice A0 n0 c0)) (e1 : w.cell? ⟨h, 1, none⟩ = some (.slice A1 n1 c1))
    (hn0 : n0 ≤ 1000000) (hn1 : n1 ≤ 1000000) (r0 : Kd.C kRaw2 w A0 n0 Y0) (r1 : Kd.C kRaw2 w A1 n1 Y1) :
    Calls Tryd.prog 33 #[.slice (some ⟨h, 0, none⟩) 2 2] w (ConcOut (Y0 ++ Y1) w) := by
  have hh := World.block_lt_of_cell? w _ e0
  have HR0 := hidF r0
  have HR1 := hidF r1
  have HE0 := hidF e0
  have HE1 := hidF e1
  have hl0 := hidF r0.1
  have hl1 := hidF r1.1
  obtain ⟨n, hn⟩ : ∃ n, n0 + n1 = n := ⟨_, rfl⟩
  have q1 : IntKind.i64.wrap ((n0 : Int) + (n1 : Int)) = (n : Int) := by rw [IntKind.wrap_i64]; omega
  have q2 : ¬ (n0 : Int) < 0 := by omega
  have q3 : ¬ (n : Int) < 0 := by omega
  have GR := hidF (fun W => grow_c n (by omega) W)
  clear r0 r1 hn
  go_enter Tryd.func33, Tryd.ntmps33
  go_wp2
  go_loop [3, 11] (fun v3 v11 => Hid (Rel1 n0 n v3 v11)) (fun _ v11 => 2 - natOf v11)
  case atStart => exact hidF (.inl ⟨rfl, rfl⟩)
  case round =>
    rcases hrel.out with ⟨rfl, rfl⟩ | ⟨rfl, rfl⟩ | ⟨rfl, rfl⟩
    · clear hrel
      go_wp2
      go_round
      case rel => exact hidF (.inr (.inl ⟨rfl, rfl⟩))
      case measure => simp [natOf]
    · clear hrel
      go_wp2
      go_round
      case rel => exact hidF (.inr (.inr ⟨rfl, rfl⟩))
      case measure => simp [natOf]
    · clear hrel
      go_wp2_with (go_at_call 63; ((with_reducible refine (GR.out _).mono ?_); rintro e w1 ⟨v, rfl, ho, hb⟩; have HO := hidF ho; have HB := hidF hb; clear ho hb e0 e1))
      go_loopw [6, 27] (fun v6 v27 wr => ∃ X, Hid (Rel2 Y0 Y1 v27 X) ∧ Hid (Kd.R kRaw2 35 wr w.heap.size (fun _ => True) v6 X) ∧ Hid (Below w.heap.size w wr)) (fun _ v27 _ => 2 - natOf v27)
      case atStart => exact ⟨[], hidF (.inl ⟨rfl, rfl⟩), HO, HB⟩
      case round =>
        clear HO HB
        obtain ⟨X, HX, HO, HB⟩ := hrel
        have e0 := (HB.out.cell (p := ⟨h, 0, none⟩) hh).trans HE0.out
        have e1 := (HB.out.cell (p := ⟨h, 1, none⟩) hh).trans HE1.out
        rcases HX.out with ⟨rfl, hX⟩ | ⟨rfl, hX⟩ | ⟨rfl, hX⟩
        all_goals (have HOO := HO.out; rw [hX] at HOO; have HO2_ := hidF HOO; clear HOO hX HO; have HO := HO2_; clear HO2_)
        · clear HX
          go_wp2_with ((with_reducible refine gate_dst (N := 33) rfl ?_); refine Kd.R_append_rows kRaw2 (Rr := kRaw2.K wr) (w0 := w) w.heap.size rfl (.tmp 31) (.tmp 32) 23 35 (.agg #[(.slice none 0 0), (.int .i64 0)]) 32 rfl Tryd.underlying23 infoE rfl (by decide) (by omega) u6 [] Y0 _ _ _ (fun _ => True) (fun _ => False) rfl rfl ?aO ?aR (fun _ _ h => kRaw2_KM h) (fun _ h => h.elim) ?aF ?aB ?aS ?aL ?_; (case aO => exact HO.out); (case aR => exact Kd.C_below HR0.out HB.out); (case aF => exact fun _ _ => trivial); (case aB => exact HB.out); (case aS => exact HB.out.size); (case aL => simp; omega); intro v2 w2 ho2 hb2 hg2 hn2; clear hg2 hn2; have HO2 := hidF ho2; have HB2 := hidF hb2; clear ho2 hb2)
          go_roundw
          case rel => exact ⟨_, hidF (.inr (.inl ⟨rfl, List.nil_append _⟩)), HO2, HB2⟩
          case measure => simp [natOf]
        · clear HX
          go_wp2_with ((with_reducible refine gate_dst (N := 33) rfl ?_); refine Kd.R_append_rows kRaw2 (Rr := kRaw2.K wr) (w0 := w) w.heap.size rfl (.tmp 31) (.tmp 32) 23 35 (.agg #[(.slice none 0 0), (.int .i64 0)]) 32 rfl Tryd.underlying23 infoE rfl (by decide) (by omega) u6 Y0 Y1 _ _ _ (fun _ => True) (fun _ => False) rfl rfl ?aO ?aR (fun _ _ h => kRaw2_KM h) (fun _ h => h.elim) ?aF ?aB ?aS ?aL ?_; (case aO => exact HO.out); (case aR => exact Kd.C_below HR1.out HB.out); (case aF => exact fun _ _ => trivial); (case aB => exact HB.out); (case aS => exact HB.out.size); (case aL => rw [hl0.out]; omega); intro v2 w2 ho2 hb2 hg2 hn2; clear hg2 hn2; have HO2 := hidF ho2; have HB2 := hidF hb2; clear ho2 hb2)
          go_roundw
          case rel => exact ⟨_, hidF (.inr (.inr ⟨rfl, rfl⟩)), HO2, HB2⟩
          case measure => simp [natOf]
        · clear HX
          go_wp2
          go_ret
          exact ⟨_, rfl, HO.out, HB.out⟩
/-- what Add answers -/
def addP (l0 l1 : List S35) : List S35 × Int := if soundZ l0 && soundZ l1 then makeP (l0 ++ l1) else ([], 1)
def AddOut (l0 l1 : List S35) (w : World) (e : Ending) (w' : World) : Prop :=
  ∃ v0, e = .returned (.tuple #[v0, .int .i64 (addP l0 l1).2]) ∧ Kd.R k35 35 w' w.heap.size (fun _ => True) v0 (addP l0 l1).1 ∧ Below w.heap.size w w'
theorem AddOut.of {l0 l1 : List S35} {w w' : World} {v0 : Value} {r1 : List S35} {r2 : Int} (h : addP l0 l1 = (r1, r2)) (hR : Kd.R k35 35 w' w.heap.size (fun _ => True) v0 r1) (hb : Below w.heap.size w w') : AddOut l0 l1 w (.returned (.tuple #[v0, .int .i64 r2])) w' :=
  ⟨v0, by rw [h], by rw [h]; exact hR, hb⟩
set_option maxRecDepth 100000 in
set_option maxHeartbeats 8000000 in
theorem add_z (A0 : Option Addr) (c0 : Nat) (l0 : List S35) (A1 : Option Addr) (c1 : Nat) (l1 : List S35) (w : World) (hr0 : Kd.C k35 w A0 l0.length l0) (hc0 : l0.length ≤ c0) (hr1 : Kd.C k35 w A1 l1.length l1) (hc1 : l1.length ≤ c1)
    (h0 : ∀ x ∈ l0, rngL x.f0 = true ∧ I64 x.f1) (h1 : ∀ x ∈ l1, rngL x.f0 = true ∧ I64 x.f1) (hl0 : l0.length ≤ 500000) (hl1 : l1.length ≤ 500000) :
    Calls Tryd.prog 12 #[.slice A0 l0.length c0, .slice A1 l1.length c1] w (AddOut l0 l1 w) := by
  have S0 := hidF (fun W (hb : Below w.heap.size w W) => zSound_c A0 c0 l0 W (Kd.C_below hr0 hb) hc0 (fun x hx => (h0 x hx).1) (by omega))
  have S1 := hidF (fun W (hb : Below w.heap.size w W) => zSound_c A1 c1 l1 W (Kd.C_below hr1 hb) hc1 (fun x hx => (h1 x hx).1) (by omega))
  obtain ⟨Y0, y0, R0, K0⟩ := raws_of hr0
  obtain ⟨Y1, y1, R1, K1⟩ := raws_of hr1
  have hR0 := hidF R0
  have hR1 := hidF R1
  have MK : Hid (∀ (W : World) (v : Value), Below w.heap.size w W → Kd.R kRaw2 35 W w.heap.size (fun _ => True) v (Y0 ++ Y1) → ∃ A c, v = .slice A (l0 ++ l1).length c ∧ Calls Tryd.prog 15 #[.slice A (l0 ++ l1).length c] W (MakeOut (l0 ++ l1) W)) := hidF fun W v hb hR => by
    obtain ⟨A, c, rfl, hle, hC⟩ := Kd.R_reads hR
    have hlen : (Y0 ++ Y1).length = (l0 ++ l1).length := by rw [List.length_append, List.length_append, y0, y1]
    rw [hlen] at hC ⊢
    refine ⟨A, c, rfl, make_c A c (l0 ++ l1) W (C_of_raws hC hlen fun i x p hx hp => ?_) (by rw [List.length_append]; omega) (fun x hx => ?_)⟩
    · by_cases hi : i < l0.length
      · rw [List.getElem?_append_left hi] at hx
        rw [List.getElem?_append_left (by omega)] at hp
        exact k35.K_below hb (K0 i x p hx hp)
      · rw [List.getElem?_append_right (by omega)] at hx
        rw [List.getElem?_append_right (by omega), y0] at hp
        exact k35.K_below hb (K1 _ x p hx hp)
    · rcases List.mem_append.1 hx with hx | hx
      · exact h0 x hx
      · exact h1 x hx
  have HB := hidF (Below.refl w.heap.size w)
  obtain ⟨n0, hn0⟩ : ∃ n, l0.length = n := ⟨_, rfl⟩
  obtain ⟨n1, hn1⟩ : ∃ n, l1.length = n := ⟨_, rfl⟩
  rw [hn0] at hR0 S0 hl0 hc0 ⊢
  rw [hn1] at hR1 S1 hl1 hc1 ⊢
  clear hr0 hr1 h0 h1 R0 R1 K0 K1 y0 y1 hn0 hn1
  cases s0 : soundZ l0
  · have HA : Hid (addP l0 l1 = ([], 1)) := hidF (by unfold addP; rw [s0]; rfl)
    rw [s0] at S0
    clear s0
    go_enter Tryd.func12, Tryd.ntmps12
    go_wp2_with (go_at_call 11; ((with_reducible refine (S0.out _ (Below.refl _ _)).mono ?_); rintro e w1 ⟨rfl, hb⟩))
    go_ret2
    exact AddOut.of HA.out (Kd.R_nil _ _ _ _ _) hb
  · cases s1 : soundZ l1
    · have HA : Hid (addP l0 l1 = ([], 1)) := hidF (by unfold addP; rw [s0, s1]; rfl)
      rw [s0] at S0
      rw [s1] at S1
      clear s0 s1
      go_enter Tryd.func12, Tryd.ntmps12
      go_wp2_with (first
        | (go_at_call 11; (fail_if_success (have := w1)); ((with_reducible refine (S0.out _ HB.out).mono ?_); rintro e w1 ⟨rfl, hb⟩; have HB1 := hidF hb; clear hb))
        | (go_at_call 11; ((with_reducible refine (S1.out _ HB1.out).mono ?_); rintro e w2 ⟨rfl, hb⟩; have HB2 := hidF (HB1.out.trans (hb.mono HB1.out.size)); clear hb)))
      go_ret2
      exact AddOut.of HA.out (Kd.R_nil _ _ _ _ _) HB2.out
    · have HA : Hid (addP l0 l1 = makeP (l0 ++ l1)) := hidF (by unfold addP; rw [s0, s1]; rfl)
      rw [s0] at S0
      rw [s1] at S1
      clear s0 s1
      go_enter Tryd.func12, Tryd.ntmps12
      go_wp2_with (first
        | (go_at_call 11; ((with_reducible refine (S0.out _ HB.out).mono ?_); rintro e w1 ⟨rfl, hb⟩; have HB1 := hidF hb; clear hb))
        | (go_at_call 11; ((with_reducible refine (S1.out _ HB1.out).mono ?_); rintro e w2 ⟨rfl, hb⟩; have HB2 := hidF (HB1.out.trans (hb.mono HB1.out.size)); clear hb)))
      have HB3 := hidF (HB2.out.alloc HB2.out.size (.cells #[.slice A0 n0 c0, .slice A1 n1 c1] 23 (0, 0)))
      (with_reducible refine (concat_c _ A0 A1 n0 c0 n1 c1 Y0 Y1 _ ((blk_cell (heap_alloc_new _ _) 0).trans rfl) ((blk_cell (heap_alloc_new _ _) 1).trans rfl) (by omega) (by omega) (Kd.C_below hR0.out HB3.out) (Kd.C_below hR1.out HB3.out)).mono ?_)
      rintro e w4 ⟨v, rfl, hoR, hb4⟩
      obtain ⟨A, c, rfl, hM⟩ := MK.out w4 v (HB3.out.trans (hb4.mono HB3.out.size)) (Kd.R_lower hoR HB3.out.size)
      rw [List.length_append] at hM
      have HM := hidF hM
      have HB4 := hidF (HB3.out.trans (hb4.mono HB3.out.size))
      clear hM hoR hb4
      go_wp2_with fail
      (with_reducible refine HM.out.mono ?_)
      rintro e w5 ⟨v5, rfl, ho5, hb5⟩
      have HO5 := hidF ho5
      have HB5 := hidF hb5
      clear ho5 hb5
      go_wp2_with fail
      go_ret2
      exact ⟨v5, by rw [HA.out] <;> rfl, by rw [HA.out]; exact Kd.R_lower HO5.out HB4.out.size, HB4.out.trans (HB5.out.mono HB4.out.size)⟩
end Go.Proofs.YthpkjkcfhipjhaaDoor
end
