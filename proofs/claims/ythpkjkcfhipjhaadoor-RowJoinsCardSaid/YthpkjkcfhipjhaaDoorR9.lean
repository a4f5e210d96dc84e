/- row.Decode: the walk. -/
import Derived.Test.YthpkjkcfhipjhaaDoorR8
namespace Go.Proofs.YthpkjkcfhipjhaaDoor
set_option linter.unusedVariables false
set_option linter.unusedSimpArgs false
open Go.RowKit Go.Proofs.YthpkjkcfhipjhaaDoorW.PrintWords Go.Proofs.YthpkjkcfhipjhaaDoorW.PrintLast PRW

theorem rowD {B : Nat} {w3 w9 : World} {v v0 v1 : Value} {l : List S56} (h : Kd.R k56 56 w3 (B + 3) (fun k => B + 3 ≤ k) v l) (hb : Below ((w3.setCell ⟨B, 0, none⟩ v0).setCell ⟨B + 1, 0, none⟩ v1).heap.size ((w3.setCell ⟨B, 0, none⟩ v0).setCell ⟨B + 1, 0, none⟩ v1) w9) : Kd.R k56 56 w9 B (fun _ => True) v l := by
  have h1 := Kd.R_far h (p := ⟨B, 0, none⟩) (fun k hk => by simp; omega) v0
  have h2 := Kd.R_far h1 (p := ⟨B + 1, 0, none⟩) (fun k hk => by simp; omega) v1
  exact Kd.R_mono (Kd.R_lower (Kd.R_below h2 hb) (by omega)) (fun _ _ => trivial)

set_option maxRecDepth 100000 in
set_option maxHeartbeats 4000000 in
theorem decode_c (s : List UInt8) (w : World) (hs : s.length ≤ 140737488355327) :
    Calls Tryd.prog 24 #[.string (bs s)] w (OutD2 (decB s) w) := by
  have hmf : ∀ (fn : Fn) (first cap : Array Value) (w : World), (Instr.makeFunc fn first cap).run Tryd.prog w = .ok (.func fn first cap) w := fun _ _ _ _ => rfl
  obtain ⟨R, hR⟩ : ∃ R, decB s = R := ⟨_, rfl⟩
  rw [hR]
  go_enter_defers Tryd.func24, Tryd.ntmps24
  go_wp2_with fail
  go_loopw [] (fun wr => ∃ (l : List UInt8) (acc : List V) (v : Value), l.length ≤ 140737488355327 ∧ acc.length ≤ 1024 ∧ Lp w.heap.size w wr l acc v ∧ R = decR (l.length + 1) acc l) (fun wr => restN wr (w.heap.size + 1 + 1))
  case atStart =>
    refine ⟨s, [], .slice none 0 0, hs, by simp, ⟨⟨by simp [go_sem], by simp [go_sem]⟩, (by repeat (first | (with_reducible exact Below.refl _ _) | (with_reducible refine below_al ?_ _) | (with_reducible refine below_drewN ?_ _) | (with_reducible refine Below.drew ?_) | (with_reducible refine below_via (by assumption) ?_) | (with_reducible refine below_sc ?_ ?_ _; · (first | (simp; done) | (simp; omega) | omega)))), by simp [go_sem], by simp [go_sem], by simp [go_sem], by simp [go_sem], Kd.R_nil _ _ _ _ _⟩, hR.symm⟩
  case round =>
    obtain ⟨l, acc, v, hl, hn, HL, he⟩ := hrel
    have HH := hidF HL
    have HE := hidF he
    clear HL he hs
    obtain ⟨A, c, rfl⟩ := HH.out.len
    have hlt := HH.out.lt
    have c0 := HH.out.c0
    have c1 := HH.out.c1
    have f0 := HH.out.f0
    have f1 := HH.out.f1
    have s0 := HH.out.rd.c0
    have sf := HH.out.rd.f0
    by_cases h0 : l = []
    · subst h0
      have hem : (bs []).toList.isEmpty = true := by rw [ByteArray.toList_eq]; rfl
      go_wp2_with fail
      refine leaves_cons (f := 46) (args := #[.pointer (some ⟨w.heap.size, 0, none⟩), .pointer (some ⟨w.heap.size + 1, 0, none⟩)]) (by simp) (by simp [go_sem]) ?_
      refine (dec1_ret _ _ _).mono ?_
      rintro e u' w9 ⟨rfl, rfl, hb9⟩
      obtain ⟨hc9, hf9⟩ := bcell hb9
      have m0 : w9.cell? ⟨w.heap.size, 0, none⟩ = some (.slice A acc.length c) := by rw [hc9 _ _ (by simp; omega)]; simp [go_sem, c0, c1]
      have m1 : w9.cell? ⟨w.heap.size + 1, 0, none⟩ = some (.int .i64 0) := by rw [hc9 _ _ (by simp; omega)]; simp [go_sem, c0, c1]
      exact ⟨.tuple #[.slice A acc.length c, .int .i64 0], by simp [results, Tryd.results24, go_sem, m0, m1], outD_ok (HE.out.trans (decR_end acc 0)) rfl (rowD HH.out.row hb9) ((((HH.out.below).setCell (by simp) _).setCell (by simp) _).trans (hb9.mono (by simp; omega)))⟩
    · have hem : (bs l).toList.isEmpty = false := by
        rw [ByteArray.toList_eq]
        show l.isEmpty = false
        cases l with
        | nil => exact absurd rfl h0
        | cons a t => rfl
      by_cases h1 : acc.length < 1024
      · have hd1 : decide ((acc.length : Int) < 1024) = true := decide_eq_true (by omega)
        have hd2 : decide (acc.length < 1024) = true := decide_eq_true h1
        have cV : ∀ W, Rd W (w.heap.size + 1 + 1) l → Calls Tryd.prog 48 #[.pointer (some ⟨w.heap.size + 1 + 1, 0, none⟩)] W (OutVr (w.heap.size + 1 + 1) (decV l) W) := fun W hW => value_c' _ l W hW hl
        rcases hr : decV l with e | ⟨x, l'⟩
        · rw [hr] at cV
          have HR := hidF (decR_bad acc l h0 l.length h1 e hr)
          go_wp2_with (go_at_call 47; (with_reducible refine (rmust_t _ _).mono ?_); rintro e w3 ⟨rfl, rfl⟩)
          have hWd : Rd wr.drew (w.heap.size + 1 + 1) l := ⟨s0, sf⟩
          have HLd := hidF (HH.out.bl (Below.refl _ _).drew)
          refine wp_region_anyPanic 18 ?_
          refine start_ (n := 6) (S := fun w' => w'.cell? ⟨w.heap.size, 0, none⟩ = some (.slice A acc.length c)) (ds := [5]) #[false, false, false, false, false, false] (by kernel_rfl) rfl rfl c0 (fun hHeld => ?_)
          generalize wr.drew = wd at *
          refine pure_ (i := 1) (N := some 19) (v := ?_) (a' := ?_) #[false, true, false, false, false, false] rfl rfl (by kernel_rfl) (AnyPanic.put 19 (by decide) _) (Or.inl ⟨by rfl, ?_⟩) ?_ ?_
          rotate_left
          · intro w'
            go_simp
            with_reducible rfl
          rotate_left
          · simp only [Act.put, List.setIfInBounds_toArray, List.set_cons_zero, List.set_cons_succ, i64_w, i32_w]
            rfl
          refine take_ (i := 0) (N := some 18) (v := ?_) (a' := ?_) #[true, true, false, false, false, false] rfl rfl (by kernel_rfl) (AnyPanic.put 18 (by decide) _) (Or.inl ⟨by rfl, ?_⟩) hHeld ?_ ?_
          rotate_left
          · rintro w' s0
            go_simp
            with_reducible rfl
          rotate_left
          · simp only [Act.put, List.setIfInBounds_toArray, List.set_cons_zero, List.set_cons_succ, i64_w, i32_w]
            rfl
          refine one_ (i := 2) (N := some 20) #[true, true, true, false, false, false] rfl rfl (by kernel_rfl) (by decide) (fun K hK => ?_)
          refine goesX_ Tryd.func48 (by kernel_rfl) rfl #[.pointer (some ⟨w.heap.size + 1 + 1, 0, none⟩)] (by rfl) rfl (by (try simp only [List.map_toArray, List.map_cons, List.map_nil]); first | done | rfl) ?_
          refine (cV _ hWd).mono ?_
          rintro e' w4 ⟨rfl, hF4⟩
          refine ⟨_, rfl, ?_⟩
          intro a' ha' hs'
          have t2 := hs' 2 (by decide)
          have t3 := hs' 3 (by decide)
          clear hs'
          obtain ⟨tm, df⟩ := a'
          obtain rfl : df = _ := ha'
          simp only [List.getElem?_toArray, List.getElem?_cons_succ, List.getElem?_cons_zero] at t2 t3
          show bodyPostD Tryd.prog Tryd.f24 (OutD2 R w) (Exit.panic (flr e)) _ w4
          have hs4 := hF4.size
          have hltd := HLd.out.lt
          have e0 := (hF4.cell w.heap.size 0 (by omega) (by omega)).trans HLd.out.c0
          have e1 := (hF4.cell (w.heap.size + 1) 0 (by omega) (by omega)).trans HLd.out.c1
          have g0 := (hF4.frozen w.heap.size 0 (by omega) (by omega)).trans HLd.out.f0
          have g1 := (hF4.frozen (w.heap.size + 1) 0 (by omega) (by omega)).trans HLd.out.f1
          refine leaves_cons (f := 46) (args := #[.pointer (some ⟨w.heap.size, 0, none⟩), .pointer (some ⟨w.heap.size + 1, 0, none⟩)]) (by simp [flr]) (by simp [go_sem]) ?_
          refine (dec1_pan w.heap.size w.heap.size (w.heap.size + 1) e _ _ _ (Nat.le_refl _) (by omega) (by omega) e0 e1 g0 g1).mono ?_
          rintro e9 u' w9 ⟨rfl, rfl, hb9, k0, k1⟩
          exact ⟨.tuple #[.slice none 0 0, .int .i64 e], by simp [results, Tryd.results24, go_sem, k0, k1, t2, t3], outD_err (HE.out.trans HR.out) rfl ((hF4.below HLd.out.below (by omega) (by omega)).trans hb9)⟩
        · rw [hr] at cV
          have hWd : Rd wr.drew (w.heap.size + 1 + 1) l := ⟨s0, sf⟩
          have HLd := hidF (HH.out.bl (Below.refl _ _).drew)
          go_wp2_with (go_at_call 47; (with_reducible refine (rmust_t _ _).mono ?_); rintro e w3 ⟨rfl, rfl⟩)
          refine wp_region_noPanic ?_
          refine start_ (n := 6) (S := fun w' => w'.cell? ⟨w.heap.size, 0, none⟩ = some (.slice A acc.length c)) (ds := [5]) #[false, false, false, false, false, false] (by kernel_rfl) rfl rfl c0 (fun hHeld => ?_)
          generalize wr.drew = wd at *
          refine pure_ (i := 1) (N := some 19) (v := ?_) (a' := ?_) #[false, true, false, false, false, false] rfl rfl (by kernel_rfl) (fun _ _ _ h => h) (Or.inl ⟨by rfl, ?_⟩) ?_ ?_
          rotate_left
          · intro w'
            go_simp
            with_reducible rfl
          rotate_left
          · simp only [Act.put, List.setIfInBounds_toArray, List.set_cons_zero, List.set_cons_succ, i64_w, i32_w]
            rfl
          refine take_ (i := 0) (N := some 18) (v := ?_) (a' := ?_) #[true, true, false, false, false, false] rfl rfl (by kernel_rfl) (fun _ _ _ h => h) (Or.inl ⟨by rfl, ?_⟩) hHeld ?_ ?_
          rotate_left
          · rintro w' s0
            go_simp
            with_reducible rfl
          rotate_left
          · simp only [Act.put, List.setIfInBounds_toArray, List.set_cons_zero, List.set_cons_succ, i64_w, i32_w]
            rfl
          refine one_ (i := 2) (N := some 20) #[true, true, true, false, false, false] rfl rfl (by kernel_rfl) (by decide) (fun K hK => ?_)
          refine goes_ Tryd.func48 (by kernel_rfl) rfl #[.pointer (some ⟨w.heap.size + 1 + 1, 0, none⟩)] (by rfl) rfl rfl (by (try simp only [List.map_toArray, List.map_cons, List.map_nil]); first | done | rfl) ?_
          refine (cV _ hWd).mono ?_
          rintro e' w4 ⟨rfl, hR4, hF4⟩
          refine ⟨_, rfl, ?_⟩
          have HL4 := hidF (HLd.out.fr hF4 hR4)
          have g0 := HL4.out.c0
          refine hK.out _ _ g0 (fun hHeld => ?_)
          clear hK K
          refine norm_ (a' := ?_) ?_ ?_
          rotate_left
          · show Act.put _ (some 20) _ = _
            simp only [Act.put, List.setIfInBounds_toArray, List.set_cons_zero, List.set_cons_succ, i64_w, i32_w]
            rfl
          have hlt4 := HL4.out.lt
          refine one_ (i := 3) (N := some 21) #[true, true, true, true, false, false] rfl rfl (by kernel_rfl) (by decide) (fun K hK => ?_)
          refine value_ (w1 := ?_) (v := ?_) (by rfl) rfl ?_ ?_
          rotate_left 2
          · go_simp
            constructor
            · rfl
            · rfl
          refine hK.out _ _ (((below_box _ _).cell (p := ⟨w.heap.size, 0, none⟩) (show w.heap.size < w4.heap.size by omega)).trans hHeld) (fun hHeld => ?_)
          clear hK K
          refine norm_ (a' := ?_) ?_ ?_
          rotate_left
          · show Act.put _ (some 21) _ = _
            simp only [Act.put, List.setIfInBounds_toArray, List.set_cons_zero, List.set_cons_succ, i64_w, i32_w]
            rfl
          refine one_ (i := 4) (N := some 22) #[true, true, true, true, true, false] rfl rfl (by kernel_rfl) (by decide) (fun K hK => ?_)
          refine Kd.R_append_step k56 (w0 := w4) (w.heap.size + 3) (by rfl) (.tmp 18) (.tmp 21) 33 56 (.agg #[(.int .i64 0), (.int .i64 0), (.int .u64 0), (.string ⟨#[]⟩)]) 40 (by rfl) Tryd.underlying33 infVal rfl (by decide) (by omega) (.slice A acc.length c) (acc.map ofV) (ofV x) [.int .i64 x.k, .int .i64 x.n, .int .u64 x.f, .string x.t] (fun k => w.heap.size + 3 ≤ k) (fun _ => False) (by rfl) (by rfl) ?aP (fun _ hk => hk.elim) ?aF ?aO ?aB ?aS ?aL ?_
          case aP => exact k56_mkM _ _ _ (ofV x)
          case aB => exact Below.refl _ _
          case aF => intro k hk; omega
          case aO => exact HL4.out.row
          case aS => omega
          case aL => rw [List.length_map]; omega
          intro v5 w5 ho hb hg hat
          have ho2 : Kd.R k56 56 w5 (w.heap.size + 3) (fun k => w.heap.size + 3 ≤ k) v5 ((acc ++ [x]).map ofV) := by rw [List.map_append]; exact ho
          clear hg hat
          have LN := HL4.out.next hb ho2
          obtain ⟨A5, c5, rfl⟩ := LN.len
          have t50 := (hb.cell (p := ⟨w.heap.size, 0, none⟩) (by simp)).trans g0
          have t5f := (hb.frozen (p := ⟨w.heap.size, 0, none⟩) (by simp)).trans HL4.out.f0
          clear ho hb ho2
          have HLN := hidF LN
          clear LN
          refine hK.out _ _ t50 (fun hHeld => ?_)
          clear hK K
          refine norm_ (a' := ?_) ?_ ?_
          rotate_left
          · show Act.put _ (some 22) _ = _
            simp only [Act.put, List.setIfInBounds_toArray, List.set_cons_zero, List.set_cons_succ, i64_w, i32_w]
            rfl
          refine last_ (i := 5) (N := none) #[true, true, true, true, true, true] rfl rfl (by kernel_rfl) (by decide) (fun K hK => ?_)
          refine skip_ (w1 := ?_) (by rfl) rfl ?_ ?_
          rotate_left
          · go_simp
            rfl
          refine hK.out _ _ ?_
          clear hK K
          refine done_ (by kernel_rfl) ?_
          refine NoPanic.normal ?_
          go_wp2_with fail
          have el : (acc ++ [x]).length = acc.length + 1 := by simp
          have hrn := HLN.out.rd.n
          rw [el] at hrn
          have HLN2 := HLN.out
          rw [el] at HLN2
          have hrm := HH.out.rd.n
          have hlt2 := decV_lt hr
          go_roundw
          case rel => exact ⟨l', acc ++ [x], _, by omega, by simp; omega, HLN2, HE.out.trans (decR_step acc l l' h0 h1 x hr)⟩
          case measure => rw [hrn, hrm]; exact hlt2
      · have hd1 : decide ((acc.length : Int) < 1024) = false := decide_eq_false (by omega)
        have hd2 : decide (acc.length < 1024) = false := decide_eq_false h1
        go_wp2_with (go_at_call 47; (with_reducible refine (rmust_f _ _).mono ?_); rintro e w3 ⟨rfl, rfl⟩)
        refine leaves_cons (f := 46) (args := #[.pointer (some ⟨w.heap.size, 0, none⟩), .pointer (some ⟨w.heap.size + 1, 0, none⟩)]) (by simp [flr]) (by simp [go_sem]) ?_
        refine (dec1_pan w.heap.size w.heap.size (w.heap.size + 1) 1 _ _ _ (Nat.le_refl _) (by omega) (by omega) c0 c1 f0 f1).mono ?_
        rintro e u' w9 ⟨rfl, rfl, hb9, e0, e1⟩
        exact ⟨.tuple #[.slice none 0 0, .int .i64 1], by simp [results, Tryd.results24, go_sem, e0, e1], outD_err (HE.out.trans (decR_many acc l h0 l.length h1)) rfl (HH.out.below.trans hb9)⟩

end Go.Proofs.YthpkjkcfhipjhaaDoor
