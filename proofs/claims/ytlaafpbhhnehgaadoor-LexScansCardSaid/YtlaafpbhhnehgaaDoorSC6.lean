/- a part of the claim: what the card leans on, out of the texts L18, L20, LP4, LR1, L19, XL, XL2, LN1, LQ1 (put together by wip/tools/shake.py). -/
import Derived.Test.YtlaafpbhhnehgaaDoorSC4
import Derived.Test.YtlaafpbhhnehgaaDoorSC5
import Derived.Deep.RegionHeld3
import Derived.Laws.RangeAny
section
namespace Go.Proofs.YtlaafpbhhnehgaaDoor
set_option linter.unusedVariables false
set_option linter.unusedSimpArgs false
open Go.RowKit Go.Proofs.YtlaafpbhhnehgaaDoorW.PrintWords Go.Proofs.YtlaafpbhhnehgaaDoorW.PrintLast PLX
set_option maxRecDepth 100000 in
set_option maxHeartbeats 2000000 in
theorem scan_big (s : ByteArray) (w : World) (hs : 65536 < s.size) :
    Calls Tryd.prog 10 #[.string s] w fun e w' => e = .returned (.tuple #[.slice none 0 0, .int .i64 0, .int .i64 20]) ∧ Below w.heap.size w w' := by
  go_enter_defers Tryd.func10, Tryd.ntmps10
  go_wp2_with fail
  exact ⟨.tuple #[.slice none 0 0, .int .i64 0, .int .i64 20], by simp [results, Tryd.results10, go_sem], rfl, (by repeat (first | (with_reducible exact Below.refl _ _) | (with_reducible refine below_al ?_ _) | (with_reducible refine below_drewN ?_ _) | (with_reducible refine Below.drew ?_) | (with_reducible refine below_via (by assumption) ?_) | (with_reducible refine below_sc ?_ ?_ _; · (first | (simp; done) | (simp; omega) | omega))))⟩
set_option maxRecDepth 100000 in
set_option maxHeartbeats 4000000 in
theorem scan_c (s : ByteArray) (w : World) (ht : Tab w) (hs : s.size ≤ 65536) :
    Calls Tryd.prog 10 #[.string s] w (OutS (scanL 1000 s.size s.data.toList) w) := by
  have hT := hidF ht
  clear ht
  have hmf : ∀ (fn : Fn) (first cap : Array Value) (w : World), (Instr.makeFunc fn first cap).run Tryd.prog w = .ok (.func fn first cap) w := fun _ _ _ _ => rfl
  obtain ⟨R, hR⟩ : ∃ R, scanL 1000 s.size s.data.toList = R := ⟨_, rfl⟩
  rw [hR]
  go_enter_defers Tryd.func10, Tryd.ntmps10
  go_wp2_with fail
  go_loopw [] (fun wr => ∃ (p : Nat) (toks : List S34) (v : Value), p ≤ s.size ∧ toks.length ≤ 1000 ∧ Lp w.heap.size s w wr p toks v ∧ R = (scanL (1000 - toks.length) s.size (s.data.toList.drop p)).map (toks ++ ·)) (fun wr => 1000 - tokN wr w.heap.size)
  case atStart =>
    refine ⟨0, [], .slice none 0 0, by omega, by simp, ⟨⟨by simp [go_sem], by simp [go_sem], by simp [go_sem]⟩, (by repeat (first | (with_reducible exact Below.refl _ _) | (with_reducible refine below_al ?_ _) | (with_reducible refine below_drewN ?_ _) | (with_reducible refine Below.drew ?_) | (with_reducible refine below_via (by assumption) ?_) | (with_reducible refine below_sc ?_ ?_ _; · (first | (simp; done) | (simp; omega) | omega)))), by simp [go_sem], by simp [go_sem], by simp [go_sem], by simp [go_sem], by simp [go_sem], by simp [go_sem], Kd.R_nil _ _ _ _ _⟩, ?_⟩
    rw [← hR, List.drop_zero]
    show _ = Except.map _ (scanL 1000 _ _)
    cases scanL 1000 s.size s.data.toList <;> simp [Except.map]
  case round =>
    obtain ⟨p, toks, v, hp, hn, HL, he⟩ := hrel
    have HH := hidF HL
    have HE := hidF he
    clear HL he
    go_wp2_with (go_at_call 20; (refine (skip_c (w.heap.size + 1 + 1 + 1) s p w wr hT.out HH.out.below (by omega) hs HH.out.sc hp).mono ?_); rintro e w1 ⟨q, hq, hF, hS1, ⟨hsk, rfl⟩ | ⟨hsk, rfl⟩⟩ <;> (have H1 := hidF (HH.out.fr hF hS1)))
    rotate_left
    · skip
      have hl := H1.out.lt
      refine leaves_cons (f := 19) (args := #[.pointer (some ⟨w.heap.size, 0, none⟩), .pointer (some ⟨w.heap.size + 1, 0, none⟩), .pointer (some ⟨w.heap.size + 1 + 1, 0, none⟩)]) (by simp [fl]) (by simp [go_sem]) ?_
      refine (scan1_pan w.heap.size w.heap.size (w.heap.size + 1) (w.heap.size + 1 + 1) q _ v (.int .i64 0) (.int .i64 0) (Nat.le_refl _) (by omega) (by omega) (by omega) H1.out.c0 H1.out.c1 H1.out.c2 H1.out.f0 H1.out.f1 H1.out.f2).mono ?_
      rintro e u' w9 ⟨rfl, rfl, hb9, d0, d1, d2⟩
      exact ⟨.tuple #[.slice none 0 0, .int .i64 q, .int .i64 20], by simp [results, Tryd.results10, go_sem, d0, d1, d2], outS_err (scan_f hq hsk HE.out) rfl (H1.out.below.trans hb9)⟩
    · skip
      obtain ⟨A, c, rfl, htn⟩ := H1.out.len
      by_cases hqe : q = s.size
      · have hem : (dropB s q).toList.isEmpty = true := by
          rw [ByteArray.toList_eq, dropB_list, List.drop_of_length_le (by rw [← Lib.size_eq]; omega)]; rfl
        have HQ := hidF hqe
        clear hqe
        go_wp2_with (first | (go_at_call 21; (refine (rest_c (w.heap.size + 1 + 1 + 1) s q w1 H1.out.sc (by omega) (by omega)).mono ?_); rintro e w2 ⟨rfl, hb2⟩; have H2 := hidF (H1.out.bl hb2); have hl2 := H2.out.lt; have d0 := H2.out.c0; have d1 := H2.out.c1; have d2 := H2.out.c2; have g0 := H2.out.f0; have g1 := H2.out.f1; have g2 := H2.out.f2) | ((with_reducible refine gate_builtin (b := .append) (xs := #[.tmp 21, .tmp 25]) rfl ?_); at_builtin; go_loud (refine Kd.R_append k34 (w0 := w2) (w.heap.size + 4) rfl (.tmp 21) (.tmp 25) 23 34 (.agg #[(.int .i64 0), (.string ⟨#[]⟩), (.int .i64 0)]) 32 rfl Tryd.underlying23 inf34 rfl (by decide) (by omega) (.slice A toks.length c) toks ⟨0, ⟨#[]⟩, (s.size : Int)⟩ [.int .i64 0, .string ⟨#[]⟩, .int .i64 s.size] (fun k => w.heap.size + 4 ≤ k) (fun _ => False) rfl rfl ?aP (fun _ hk => hk.elim) ?aF ?aO ?aB ?aS ?aL ?_; (case aP => exact k34_mkM _ _ _ ⟨0, ⟨#[]⟩, (s.size : Int)⟩); (case aB => exact Below.refl _ _); (case aF => intro k hk; omega); (case aO => exact H2.out.row); (case aS => omega); (case aL => omega); intro v3 w3 ho hb hg hat; obtain ⟨A3, c3, rfl, hc3, hr3⟩ := Kd.R_reads ho; clear hg hat hr3; have hs3 := hb.size; have e0 := (hb.cell (p := ⟨w.heap.size, 0, none⟩) (by simp)).trans d0; have e1 := (hb.cell (p := ⟨w.heap.size + 1, 0, none⟩) (by simp)).trans d1; have e2 := (hb.cell (p := ⟨w.heap.size + 1 + 1, 0, none⟩) (by simp)).trans d2; have i0 := (hb.frozen (p := ⟨w.heap.size, 0, none⟩) (by simp)).trans g0; have i1 := (hb.frozen (p := ⟨w.heap.size + 1, 0, none⟩) (by simp)).trans g1; have i2 := (hb.frozen (p := ⟨w.heap.size + 1 + 1, 0, none⟩) (by simp)).trans g2; have HB3 := hidF hb; clear hb)))
        refine leaves_cons (f := 19) (args := #[.pointer (some ⟨w.heap.size, 0, none⟩), .pointer (some ⟨w.heap.size + 1, 0, none⟩), .pointer (some ⟨w.heap.size + 1 + 1, 0, none⟩)]) (by simp) (by simp [go_sem]) ?_
        refine (scan1_ret _ _ _ _).mono ?_
        rintro e u' w9 ⟨rfl, rfl, hb9⟩
        obtain ⟨hc9, hf9⟩ := bcell hb9
        have m0 : w9.cell? ⟨w.heap.size, 0, none⟩ = some (.slice A3 (toks ++ [(⟨0, ⟨#[]⟩, (s.size : Int)⟩ : S34)]).length c3) := by rw [hc9 _ _ (by simp; omega)]; simp [go_sem, e0, e1, e2]
        have m1 : w9.cell? ⟨w.heap.size + 1, 0, none⟩ = some (.int .i64 0) := by rw [hc9 _ _ (by simp; omega)]; simp [go_sem, e0, e1, e2]
        have m2 : w9.cell? ⟨w.heap.size + 1 + 1, 0, none⟩ = some (.int .i64 0) := by rw [hc9 _ _ (by simp; omega)]; simp [go_sem, e0, e1, e2]
        exact ⟨.tuple #[.slice A3 (toks ++ [(⟨0, ⟨#[]⟩, (s.size : Int)⟩ : S34)]).length c3, .int .i64 0, .int .i64 0], by simp [results, Tryd.results10, go_sem, m0, m1, m2], outS_ok (scan_e HQ.out hsk HE.out) rfl (rowS ho hb9) (((H2.out.below.trans (HB3.out.mono (by omega))).setCell (by simp) _ |>.setCell (by simp) _ |>.setCell (by simp; omega) _).trans (hb9.mono (by simp; omega)))⟩
      · have hem : (dropB s q).toList.isEmpty = false := by
          rw [ByteArray.toList_eq, dropB_list]
          have : (s.data.toList.drop q).length ≠ 0 := by rw [List.length_drop, ← Lib.size_eq]; omega
          cases hd : s.data.toList.drop q with
          | nil => rw [hd] at this; simp at this
          | cons a b => rfl
        by_cases h1000 : toks.length < 1000
        · have hdec : decide ((toks.length : Int) < 1000) = true := decide_eq_true (by omega)
          have cT : ∀ W, Tab W → Sc W (w.heap.size + 1 + 1 + 1) s q → Calls Tryd.prog 23 #[.pointer (some ⟨w.heap.size + 1 + 1 + 1, 0, none⟩)] W (OutT q (tokL (s.data.toList.drop q)) W) := fun W hW hS => token_c _ s q W hW hs hS (by omega)
          rcases hr : tokL (s.data.toList.drop q) with _ | ⟨k, x, m⟩
          · rw [hr] at cT
            go_wp2_with (first | (go_at_call 21; (refine (rest_c (w.heap.size + 1 + 1 + 1) s q w1 H1.out.sc (by omega) (by omega)).mono ?_); rintro e w2 ⟨rfl, hb2⟩; have H2 := hidF (H1.out.bl hb2); have hl2 := H2.out.lt; have d0 := H2.out.c0; have d1 := H2.out.c1; have d2 := H2.out.c2; have g0 := H2.out.f0; have g1 := H2.out.f1; have g2 := H2.out.f2) | (go_at_call 22; (refine (must_t (w.heap.size + 1 + 1 + 1) w2).mono ?_); rintro e w3 ⟨rfl, hb3⟩; have H3 := hidF (H2.out.bl hb3)) | (go_at_call 23; (refine (cT w3 (hT.out.below H3.out.below) H3.out.sc).mono ?_); rintro e w4 ⟨rfl, hb4⟩; have H4 := hidF (H3.out.bl hb4)))
            have hl := H4.out.lt
            refine leaves_cons (f := 19) (args := #[.pointer (some ⟨w.heap.size, 0, none⟩), .pointer (some ⟨w.heap.size + 1, 0, none⟩), .pointer (some ⟨w.heap.size + 1 + 1, 0, none⟩)]) (by simp [fl]) (by simp [go_sem]) ?_
            refine (scan1_pan w.heap.size w.heap.size (w.heap.size + 1) (w.heap.size + 1 + 1) q _ (.slice A toks.length c) (.int .i64 0) (.int .i64 0) (Nat.le_refl _) (by omega) (by omega) (by omega) H4.out.c0 H4.out.c1 H4.out.c2 H4.out.f0 H4.out.f1 H4.out.f2).mono ?_
            rintro e u' w9 ⟨rfl, rfl, hb9, e0, e1, e2⟩
            exact ⟨.tuple #[.slice none 0 0, .int .i64 q, .int .i64 20], by simp [results, Tryd.results10, go_sem, e0, e1, e2], outS_err (scan_n hq hqe hsk hr HE.out) rfl (H4.out.below.trans hb9)⟩
          · rw [hr] at cT
            go_wp2_with (first | (go_at_call 21; (refine (rest_c (w.heap.size + 1 + 1 + 1) s q w1 H1.out.sc (by omega) (by omega)).mono ?_); rintro e w2 ⟨rfl, hb2⟩; have H2 := hidF (H1.out.bl hb2); have hl2 := H2.out.lt; have d0 := H2.out.c0; have d1 := H2.out.c1; have d2 := H2.out.c2; have g0 := H2.out.f0; have g1 := H2.out.f1; have g2 := H2.out.f2) | (go_at_call 22; (refine (must_t (w.heap.size + 1 + 1 + 1) w2).mono ?_); rintro e w3 ⟨rfl, hb3⟩; have H3 := hidF (H2.out.bl hb3)) | (go_at_call 23; (refine (cT w3 (hT.out.below H3.out.below) H3.out.sc).mono ?_); rintro e w4 ⟨rfl, hb4⟩; have H4 := hidF (H3.out.bl hb4)))
            obtain ⟨hm1, hm2⟩ := tok_le hr
            rw [List.length_drop, ← Lib.size_eq] at hm2
            have c40 := H4.out.c0
            have f40 := H4.out.f0
            obtain ⟨s40, s41, s4f⟩ := H4.out.sc
            have hl4 := H4.out.lt
            clear d0 d1 d2 g0 g1 g2
            have d40 : w4.drew.cell? ⟨w.heap.size, 0, none⟩ = some (.slice A toks.length c) := c40
            have df40 : w4.drew.frozen? ⟨w.heap.size, 0, none⟩ = false := f40
            have d41 : w4.drew.cell? ⟨w.heap.size + 1 + 1 + 1, 1, none⟩ = some (.int .i64 q) := s41
            have d400 : w4.drew.cell? ⟨w.heap.size + 1 + 1 + 1, 0, none⟩ = some (.string s) := s40
            have d4f : w4.drew.frozen? ⟨w.heap.size + 1 + 1 + 1, 1, none⟩ = false := s4f
            have HRd := hidF (Kd.R_drew H4.out.row)
            have HLd := hidF (H4.out.bl (Below.refl _ _).drew)
            have hsd : w4.heap.size = w4.drew.heap.size := rfl
            refine wp_region_noPanic ?_
            refine start_ (n := 11) (S := fun w' => w'.cell? ⟨w.heap.size, 0, none⟩ = some (.slice A toks.length c) ∧ w'.cell? ⟨w.heap.size + 1 + 1 + 1, 1, none⟩ = some (.int .i64 q)) (ds := [10]) #[false, false, false, false, false, false, false, false, false, false, false] (by kernel_rfl) rfl rfl ⟨c40, s41⟩ (fun hHeld => ?_)
            generalize w4.drew = wd at *
            refine pure_ (i := 1) (N := some 39) (v := ?_) (a' := ?_) #[false, true, false, false, false, false, false, false, false, false, false] rfl rfl (by kernel_rfl) (fun _ _ _ h => h) (Or.inl ⟨by rfl, ?_⟩) ?_ ?_
            rotate_left
            · intro w'
              go_simp
              with_reducible rfl
            rotate_left
            · simp only [Act.put, List.setIfInBounds_toArray, List.set_cons_zero, List.set_cons_succ, i64_w, i32_w]
              rfl
            refine pure_ (i := 2) (N := some 40) (v := ?_) (a' := ?_) #[false, true, true, false, false, false, false, false, false, false, false] rfl rfl (by kernel_rfl) (fun _ _ _ h => h) (Or.inl ⟨by rfl, ?_⟩) ?_ ?_
            rotate_left
            · intro w'
              go_simp
              with_reducible rfl
            rotate_left
            · simp only [Act.put, List.setIfInBounds_toArray, List.set_cons_zero, List.set_cons_succ, i64_w, i32_w]
              rfl
            refine pure_ (i := 3) (N := some 41) (v := ?_) (a' := ?_) #[false, true, true, true, false, false, false, false, false, false, false] rfl rfl (by kernel_rfl) (fun _ _ _ h => h) (Or.inl ⟨by rfl, ?_⟩) ?_ ?_
            rotate_left
            · intro w'
              go_simp
              with_reducible rfl
            rotate_left
            · simp only [Act.put, List.setIfInBounds_toArray, List.set_cons_zero, List.set_cons_succ, i64_w, i32_w]
              rfl
            refine pure_ (i := 4) (N := some 42) (v := ?_) (a' := ?_) #[false, true, true, true, true, false, false, false, false, false, false] rfl rfl (by kernel_rfl) (fun _ _ _ h => h) (Or.inl ⟨by rfl, ?_⟩) ?_ ?_
            rotate_left
            · intro w'
              go_simp
              with_reducible rfl
            rotate_left
            · simp only [Act.put, List.setIfInBounds_toArray, List.set_cons_zero, List.set_cons_succ, i64_w, i32_w]
              rfl
            refine pure_ (i := 5) (N := some 43) (v := ?_) (a' := ?_) #[false, true, true, true, true, true, false, false, false, false, false] rfl rfl (by kernel_rfl) (fun _ _ _ h => h) (Or.inl ⟨by rfl, ?_⟩) ?_ ?_
            rotate_left
            · intro w'
              go_simp
              with_reducible rfl
            rotate_left
            · simp only [Act.put, List.setIfInBounds_toArray, List.set_cons_zero, List.set_cons_succ, i64_w, i32_w]
              rfl
            refine take_ (i := 0) (N := some 38) (v := ?_) (a' := ?_) #[true, true, true, true, true, true, false, false, false, false, false] rfl rfl (by kernel_rfl) (fun _ _ _ h => h) (Or.inl ⟨by rfl, ?_⟩) hHeld ?_ ?_
            rotate_left
            · rintro w' ⟨s0, s1⟩
              go_simp
              with_reducible rfl
            rotate_left
            · simp only [Act.put, List.setIfInBounds_toArray, List.set_cons_zero, List.set_cons_succ, i64_w, i32_w]
              rfl
            refine take_ (i := 6) (N := some 44) (v := ?_) (a' := ?_) #[true, true, true, true, true, true, true, false, false, false, false] rfl rfl (by kernel_rfl) (fun _ _ _ h => h) (Or.inl ⟨by rfl, ?_⟩) hHeld ?_ ?_
            rotate_left
            · rintro w' ⟨s0, s1⟩
              go_simp
              with_reducible rfl
            rotate_left
            · simp only [Act.put, List.setIfInBounds_toArray, List.set_cons_zero, List.set_cons_succ, i64_w, i32_w]
              rfl
            refine pure_ (i := 7) (N := some 45) (v := ?_) (a' := ?_) #[true, true, true, true, true, true, true, true, false, false, false] rfl rfl (by kernel_rfl) (fun _ _ _ h => h) (Or.inl ⟨by rfl, ?_⟩) ?_ ?_
            rotate_left
            · intro w'
              go_simp
              with_reducible rfl
            rotate_left
            · simp only [Act.put, List.setIfInBounds_toArray, List.set_cons_zero, List.set_cons_succ, i64_w, i32_w]
              rfl
            refine one_ (i := 8) (N := some 46) #[true, true, true, true, true, true, true, true, true, false, false] rfl rfl (by kernel_rfl) (by decide) (fun K hK => ?_)
            refine value_ (w1 := ?_) (v := ?_) (by rfl) rfl ?_ ?_
            rotate_left 2
            · go_simp
              constructor
              · rfl
              · rfl
            refine hK.out _ _ ⟨((below_box _ _).cell (p := ⟨w.heap.size, 0, none⟩) (show w.heap.size < wd.heap.size by omega)).trans hHeld.1, ((below_box _ _).cell (p := ⟨w.heap.size + 1 + 1 + 1, 1, none⟩) (show w.heap.size + 1 + 1 + 1 < wd.heap.size by omega)).trans hHeld.2⟩ (fun hHeld => ?_)
            clear hK K
            refine norm_ (a' := ?_) ?_ ?_
            rotate_left
            · show Act.put _ (some 46) _ = _
              simp only [Act.put, List.setIfInBounds_toArray, List.set_cons_zero, List.set_cons_succ, i64_w, i32_w]
              rfl
            refine one_ (i := 9) (N := some 47) #[true, true, true, true, true, true, true, true, true, true, false] rfl rfl (by kernel_rfl) (by decide) (fun K hK => ?_)
            refine Kd.R_append_step k34 (w0 := wd) (w.heap.size + 4) (by rfl) (.tmp 38) (.tmp 46) 23 34 (.agg #[(.int .i64 0), (.string ⟨#[]⟩), (.int .i64 0)]) 32 (by rfl) Tryd.underlying23 inf34 rfl (by decide) (by omega) (.slice A toks.length c) toks ⟨k, ⟨x.toArray⟩, (q : Int)⟩ [.int .i64 k, .string ⟨x.toArray⟩, .int .i64 q] (fun k => w.heap.size + 4 ≤ k) (fun _ => False) (by rfl) (by rfl) ?aP (fun _ hk => hk.elim) ?aF ?aO ?aB ?aS ?aL ?_
            case aP => exact k34_mkM _ _ _ ⟨k, ⟨x.toArray⟩, (q : Int)⟩
            case aB => exact Below.refl _ _
            case aF => intro k hk; omega
            case aO => exact HRd.out
            case aS => omega
            case aL => omega
            intro v5 w5 ho hb hg hat
            obtain ⟨A5, c5, rfl, hc5, hr5⟩ := Kd.R_reads ho
            clear hg hat hr5
            have t50 := (hb.cell (p := ⟨w.heap.size, 0, none⟩) (by simp)).trans d40
            have t5f := (hb.frozen (p := ⟨w.heap.size, 0, none⟩) (by simp)).trans df40
            have t51 := (hb.cell (p := ⟨w.heap.size + 1 + 1 + 1, 1, none⟩) (by simp)).trans d41
            have t52 := (hb.cell (p := ⟨w.heap.size + 1 + 1 + 1, 0, none⟩) (by simp)).trans d400
            have t53 := (hb.frozen (p := ⟨w.heap.size + 1 + 1 + 1, 1, none⟩) (by simp)).trans d4f
            have HR5 := hidF ho
            have HB5 := hidF hb
            clear ho hb
            refine hK.out _ _ ⟨t50, t51⟩ (fun hHeld => ?_)
            clear hK K
            refine norm_ (a' := ?_) ?_ ?_
            rotate_left
            · show Act.put _ (some 47) _ = _
              simp only [Act.put, List.setIfInBounds_toArray, List.set_cons_zero, List.set_cons_succ, i64_w, i32_w]
              rfl
            refine last_ (i := 10) (N := none) #[true, true, true, true, true, true, true, true, true, true, true] rfl rfl (by kernel_rfl) (by decide) (fun K hK => ?_)
            refine skip_ (w1 := ?_) (by rfl) rfl ?_ ?_
            rotate_left
            · go_simp
              rfl
            refine hK.out _ _ ?_
            clear hK K
            refine done_ (by kernel_rfl) ?_
            refine NoPanic.normal ?_
            go_wp2_with fail
            have LN := lp_next (r := q + m) (n := (q : Int) + (m : Int)) HLd.out HB5.out HR5.out (by omega)
            have el : (toks ++ [(⟨k, ⟨x.toArray⟩, (q : Int)⟩ : S34)]).length = toks.length + 1 := by simp
            have LM := LN.len
            rw [el] at LN
            have LT := HH.out.len
            go_roundw
            case rel => exact ⟨q + m, toks ++ [⟨k, ⟨x.toArray⟩, (q : Int)⟩], _, by omega, by simp; omega, LN, scan_t hq hqe hsk hr h1000 HE.out⟩
            case measure =>
              obtain ⟨A1, c1, e1, e2⟩ := LT
              obtain ⟨A2, c2, e3, e4⟩ := LM
              rw [e2]
              have e5 : tokN ((w5.setCell ⟨w.heap.size, 0, none⟩ (.slice A5 (toks.length + 1) c5)).setCell ⟨w.heap.size + 1 + 1 + 1, 1, none⟩ (.int .i64 ((q : Int) + (m : Int)))) w.heap.size = toks.length + 1 := by
                have := e4
                simp only [List.length_append, List.length_cons, List.length_nil] at this
                exact this
              rw [e5]; omega
        · have hdec : decide ((toks.length : Int) < 1000) = false := decide_eq_false (by omega)
          go_wp2_with (first | (go_at_call 21; (refine (rest_c (w.heap.size + 1 + 1 + 1) s q w1 H1.out.sc (by omega) (by omega)).mono ?_); rintro e w2 ⟨rfl, hb2⟩; have H2 := hidF (H1.out.bl hb2); have hl2 := H2.out.lt; have d0 := H2.out.c0; have d1 := H2.out.c1; have d2 := H2.out.c2; have g0 := H2.out.f0; have g1 := H2.out.f1; have g2 := H2.out.f2) | (go_at_call 22; (refine (must_f (w.heap.size + 1 + 1 + 1) s q w2 H2.out.sc).mono ?_); rintro e w3 ⟨rfl, hb3⟩; have H3 := hidF (H2.out.bl hb3)))
          have hl := H3.out.lt
          refine leaves_cons (f := 19) (args := #[.pointer (some ⟨w.heap.size, 0, none⟩), .pointer (some ⟨w.heap.size + 1, 0, none⟩), .pointer (some ⟨w.heap.size + 1 + 1, 0, none⟩)]) (by simp [fl]) (by simp [go_sem]) ?_
          refine (scan1_pan w.heap.size w.heap.size (w.heap.size + 1) (w.heap.size + 1 + 1) q _ (.slice A toks.length c) (.int .i64 0) (.int .i64 0) (Nat.le_refl _) (by omega) (by omega) (by omega) H3.out.c0 H3.out.c1 H3.out.c2 H3.out.f0 H3.out.f1 H3.out.f2).mono ?_
          rintro e u' w9 ⟨rfl, rfl, hb9, e0, e1, e2⟩
          exact ⟨.tuple #[.slice none 0 0, .int .i64 q, .int .i64 20], by simp [results, Tryd.results10, go_sem, e0, e1, e2], outS_err (scan_o hq hqe hsk h1000 HE.out) rfl (H3.out.below.trans hb9)⟩
end Go.Proofs.YtlaafpbhhnehgaaDoor
end
section
namespace Go.Proofs.YtlaafpbhhnehgaaDoor
set_option linter.unusedVariables false
set_option linter.unusedSimpArgs false
open Go.RowKit
def capB (b : UInt8) : Bool := decide (65 ≤ b.toNat) && decide (b.toNat ≤ 90)
/-- the words with blanks around -/
def wordsT : List UInt8 := 32 :: (wordsText ++ [32])
def searchR (l : List UInt8) : Nat → Nat → Bool
  | 0, _ => false
  | f + 1, i => if i + l.length + 2 ≤ 287 then (if (wordsT.drop i).take (l.length + 2) = 32 :: (l ++ [32]) then true else searchR l f (i + 1)) else false
def isRW (l : List UInt8) : Bool := l.all capB && (decide (0 < l.length) && searchR l 300 0)
theorem litT : (⟨#[32, 65, 76, 76, 32, 65, 78, 68, 32, 65, 83, 32, 65, 83, 67, 32, 66, 79, 79, 76, 32, 66, 89, 32, 67, 65, 83, 84, 32, 67, 79, 65, 76, 69, 83, 67, 69, 32, 67, 79, 85, 78, 84, 32, 67, 82, 69, 65, 84, 69, 32, 67, 82, 79, 83, 83, 32, 68, 69, 76, 69, 84, 69, 32, 68, 69, 83, 67, 32, 68, 73, 83, 84, 73, 78, 67, 84, 32, 68, 82, 79, 80, 32, 69, 88, 67, 69, 80, 84, 32, 69, 88, 73, 83, 84, 83, 32, 70, 65, 76, 83, 69, 32, 70, 76, 79, 65, 84, 32, 70, 82, 79, 77, 32, 71, 82, 79, 85, 80, 32, 72, 65, 86, 73, 78, 71, 32, 73, 78, 32, 73, 78, 78, 69, 82, 32, 73, 78, 83, 69, 82, 84, 32, 73, 78, 84, 32, 73, 78, 84, 69, 82, 83, 69, 67, 84, 32, 73, 78, 84, 79, 32, 73, 83, 32, 74, 79, 73, 78, 32, 76, 69, 70, 84, 32, 76, 73, 77, 73, 84, 32, 77, 65, 88, 32, 77, 73, 78, 32, 78, 79, 84, 32, 78, 85, 76, 76, 32, 79, 78, 32, 79, 82, 32, 79, 82, 68, 69, 82, 32, 82, 69, 67, 85, 82, 83, 73, 86, 69, 32, 83, 69, 76, 69, 67, 84, 32, 83, 69, 84, 32, 83, 85, 77, 32, 84, 65, 66, 76, 69, 32, 84, 69, 88, 84, 32, 84, 82, 85, 69, 32, 85, 78, 73, 79, 78, 32, 85, 80, 68, 65, 84, 69, 32, 86, 65, 76, 85, 69, 83, 32, 86, 73, 69, 87, 32, 87, 72, 69, 82, 69, 32, 87, 73, 84, 72, 32]⟩ : ByteArray) = ⟨wordsT.toArray⟩ := by kernel_rfl
theorem cutT (j n : Nat) : ((⟨#[32, 65, 76, 76, 32, 65, 78, 68, 32, 65, 83, 32, 65, 83, 67, 32, 66, 79, 79, 76, 32, 66, 89, 32, 67, 65, 83, 84, 32, 67, 79, 65, 76, 69, 83, 67, 69, 32, 67, 79, 85, 78, 84, 32, 67, 82, 69, 65, 84, 69, 32, 67, 82, 79, 83, 83, 32, 68, 69, 76, 69, 84, 69, 32, 68, 69, 83, 67, 32, 68, 73, 83, 84, 73, 78, 67, 84, 32, 68, 82, 79, 80, 32, 69, 88, 67, 69, 80, 84, 32, 69, 88, 73, 83, 84, 83, 32, 70, 65, 76, 83, 69, 32, 70, 76, 79, 65, 84, 32, 70, 82, 79, 77, 32, 71, 82, 79, 85, 80, 32, 72, 65, 86, 73, 78, 71, 32, 73, 78, 32, 73, 78, 78, 69, 82, 32, 73, 78, 83, 69, 82, 84, 32, 73, 78, 84, 32, 73, 78, 84, 69, 82, 83, 69, 67, 84, 32, 73, 78, 84, 79, 32, 73, 83, 32, 74, 79, 73, 78, 32, 76, 69, 70, 84, 32, 76, 73, 77, 73, 84, 32, 77, 65, 88, 32, 77, 73, 78, 32, 78, 79, 84, 32, 78, 85, 76, 76, 32, 79, 78, 32, 79, 82, 32, 79, 82, 68, 69, 82, 32, 82, 69, 67, 85, 82, 83, 73, 86, 69, 32, 83, 69, 76, 69, 67, 84, 32, 83, 69, 84, 32, 83, 85, 77, 32, 84, 65, 66, 76, 69, 32, 84, 69, 88, 84, 32, 84, 82, 85, 69, 32, 85, 78, 73, 79, 78, 32, 85, 80, 68, 65, 84, 69, 32, 86, 65, 76, 85, 69, 83, 32, 86, 73, 69, 87, 32, 87, 72, 69, 82, 69, 32, 87, 73, 84, 72, 32]⟩ : ByteArray).extract j (j + n + 2)).toList = (wordsT.drop j).take (n + 2) := by
  rw [litT, Lib.extract_toList, show j + n + 2 - j = n + 2 by omega]
set_option maxRecDepth 1000000 in
set_option maxHeartbeats 8000000 in
theorem rIsWord_c (s : ByteArray) (w : World) (hs : s.size ≤ 140737488355328) :
    Calls Tryd.prog 16 #[.string s] w fun e w' => e = .returned (.bool (isRW s.data.toList)) ∧ Below w.heap.size w w' := by
  obtain ⟨R, hR⟩ : ∃ R, isRW s.data.toList = R := ⟨_, rfl⟩
  rw [hR]
  go_enter Tryd.func16, Tryd.ntmps16
  go_wp2
  go_loopw [3] (fun v wr => ∃ i : Nat, v = .int .i64 i ∧ i ≤ s.size ∧ Below w.heap.size w wr ∧ R = ((s.data.toList.drop i).all capB && (decide (0 < s.data.toList.length) && searchR s.data.toList 300 0))) (fun v _ => s.size - (intOf v).toNat)
  case atStart => exact ⟨0, rfl, by omega, Below.refl _ _, by rw [← hR]; rfl⟩
  case round =>
    obtain ⟨i, rfl, hi, HB, hr⟩ := hrel
    by_cases hlt : i < s.size
    · rw [get_lt hlt, List.all_cons] at hr
      have hx := (s[i]).toNat_lt
      by_cases hc : 65 ≤ (s[i]).toNat ∧ (s[i]).toNat ≤ 90
      · have hcap : capB s[i] = true := by unfold capB; simp; omega
        rw [hcap, Bool.true_and] at hr
        have h1 : decide (((s[i]).toNat : Int) < 65) = false := decide_eq_false (by omega)
        have h2 : decide (90 < ((s[i]).toNat : Int)) = false := decide_eq_false (by omega)
        have HR := hidF hr
        clear hr
        go_wp2
        go_roundw
        case rel => exact ⟨i + 1, by go_num, by omega, HB, HR.out⟩
        case measure => simp [intOf]; omega
      · have hcap : capB s[i] = false := by unfold capB; simp; omega
        rw [hcap] at hr
        simp only [Bool.false_and] at hr
        by_cases hc1 : (s[i]).toNat < 65
        · have h1 : decide (((s[i]).toNat : Int) < 65) = true := decide_eq_true (by omega)
          go_wp2
          go_ret
          exact ⟨by rw [hr]; rfl, HB⟩
        · have h1 : decide (((s[i]).toNat : Int) < 65) = false := decide_eq_false (by omega)
          have h2 : decide (90 < ((s[i]).toNat : Int)) = true := decide_eq_true (by omega)
          go_wp2
          go_ret
          exact ⟨by rw [hr]; rfl, HB⟩
    · have hie : i = s.size := by omega
      rw [hie, List.drop_of_length_le (by rw [← Lib.size_eq]; omega), List.all_nil, Bool.true_and, ← Lib.size_eq] at hr
      have HR := hidF hr
      clear hr
      go_wp2
      go_loopw [4] (fun v wx => ∃ j : Nat, v = .int .i64 j ∧ j ≤ 290 ∧ Below w.heap.size w wx ∧ R = (decide (0 < s.size) && searchR s.data.toList (300 - j) j)) (fun v _ => 300 - (intOf v).toNat)
      case atStart => exact ⟨0, rfl, by omega, HB, HR.out⟩
      case round =>
        obtain ⟨j, rfl, hj, HBj, hrj⟩ := hrel
        obtain ⟨f, hf⟩ : ∃ f, 300 - j = f + 1 := ⟨299 - j, by omega⟩
        rw [hf, searchR, ← Lib.size_eq] at hrj
        by_cases h287 : j + s.size + 2 ≤ 287
        · have d1 : decide ((j : Int) + (s.size : Int) + 2 ≤ 287) = true := decide_eq_true (by omega)
          rw [if_pos h287] at hrj
          by_cases h0 : 0 < s.size
          · have d2 : decide (0 < (s.size : Int)) = true := decide_eq_true (by omega)
            have HRJ := hidF hrj
            clear hrj
            have hcat : ((⟨#[32]⟩ : ByteArray) ++ s ++ ⟨#[32]⟩).toList = 32 :: (s.data.toList ++ [32]) := by
              rw [ByteArray.toList_eq]; simp
            have hcut := cutT j s.size
            go_wp2
            · rename_i hC
              have hC2 : (wordsT.drop j).take (s.size + 2) = 32 :: (s.data.toList ++ [32]) := by simpa using hC
              have hRt : R = true := by rw [HRJ.out, if_pos hC2]; simp [h0]
              go_ret
              exact ⟨by rw [hRt]; rfl, HBj⟩
            · rename_i hC
              have hC2 : ¬ (wordsT.drop j).take (s.size + 2) = 32 :: (s.data.toList ++ [32]) := by simpa using hC
              have hRf := HRJ.out
              rw [if_neg hC2] at hRf
              go_roundw
              case rel => exact ⟨j + 1, by go_num, by omega, HBj, by rw [show 300 - (j + 1) = f by omega]; exact hRf⟩
              case measure => simp [intOf]; omega
          · have d2 : decide (0 < (s.size : Int)) = false := decide_eq_false (by omega)
            have hRf : R = false := by rw [hrj]; simp [h0]
            clear hrj
            go_wp2
            go_ret
            exact ⟨by rw [hRf]; rfl, HBj⟩
        · have d1 : decide ((j : Int) + (s.size : Int) + 2 ≤ 287) = false := decide_eq_false (by omega)
          have hRf : R = false := by rw [hrj, if_neg h287]; simp
          clear hrj
          go_wp2
          go_ret
          exact ⟨by rw [hRf]; rfl, HBj⟩
end Go.Proofs.YtlaafpbhhnehgaaDoor
end
section
namespace Go.Proofs.YtlaafpbhhnehgaaDoor
set_option linter.unusedVariables false
set_option linter.unusedSimpArgs false
open Go.RowKit Go.Lib
theorem idx_neg (p : Nat → Bool) (s : ByteArray) (hp : ∀ r, 128 ≤ r → p r = true) : ∀ f pos, s.size ≤ pos + f →
    (decide (idxFuncFrom p true s f pos < 0) = (s.data.toList.drop pos).all (fun b => decide (b.toNat < 128) && !p b.toNat)) := by
  intro f
  induction f with
  | zero =>
    intro pos h
    rw [List.drop_of_length_le (by rw [← Lib.size_eq]; omega)]; rfl
  | succ f ih =>
    intro pos h
    by_cases hps : pos < s.size
    · rw [get_lt hps, List.all_cons]
      unfold idxFuncFrom
      rw [if_pos hps]
      by_cases hb : (s[pos]'hps).toNat < 128
      · rw [decode_ascii s pos hps hb]
        simp only [hb, decide_true, Bool.true_and]
        cases hpb : p (s[pos]'hps).toNat
        · simp only [Bool.false_eq_true, if_false, Bool.not_false, Bool.true_and]
          exact ih (pos + 1) (by omega)
        · simp only [if_true, Bool.not_true, Bool.false_and]
          exact decide_eq_false (by omega)
      · have hh := decode_high s pos hps (by omega)
        rw [hp _ hh.1]
        simp only [if_true, hb, decide_false, Bool.false_and]
        exact decide_eq_false (by omega)
    · rw [idxFuncFrom_end p true s (f + 1) pos hps, List.drop_of_length_le (by rw [← Lib.size_eq]; omega)]; rfl
theorem idx_asc (p : Nat → Bool) (s : ByteArray) : ∀ f pos, s.size ≤ pos + f → (∀ b ∈ s.data.toList.drop pos, b.toNat < 128) →
    (decide (0 ≤ idxFuncFrom p true s f pos) = (s.data.toList.drop pos).any (fun b => p b.toNat)) := by
  intro f
  induction f with
  | zero =>
    intro pos h _
    rw [List.drop_of_length_le (by rw [← Lib.size_eq]; omega)]; rfl
  | succ f ih =>
    intro pos h ha
    by_cases hps : pos < s.size
    · rw [get_lt hps] at ha ⊢
      rw [List.any_cons]
      unfold idxFuncFrom
      rw [if_pos hps]
      have hb := ha _ (List.mem_cons_self ..)
      rw [decode_ascii s pos hps hb]
      cases hpb : p (s[pos]'hps).toNat
      · simp only [Bool.false_eq_true, if_false, Bool.false_or]
        exact ih (pos + 1) (by omega) (fun b hb => ha b (List.mem_cons_of_mem _ hb))
      · simp only [if_true, Bool.true_or]
        exact decide_eq_true (by omega)
    · rw [idxFuncFrom_end p true s (f + 1) pos hps, List.drop_of_length_le (by rw [← Lib.size_eq]; omega)]; rfl
/-- a letter that names may have -/
def okB (b : UInt8) : Bool := decide (32 ≤ b.toNat) && decide (b.toNat ≤ 126)
/-- whether a text is a name -/
def nameP (l : List UInt8) : Bool := decide (1 ≤ l.length) && decide (l.length ≤ 32) && (l.head? != some 64) && l.all okB
/-- a letter that a bare name may have -/
def bareB (b : UInt8) : Bool := isInn b.toNat && !(decide (65 ≤ b.toNat) && decide (b.toNat ≤ 90))
/-- whether a name is written bare -/
def bareP (l : List UInt8) : Bool := (match l with | [] => false | c :: _ => !isDig c.toNat) && l.all bareB && !isWd (toUpperA l)
/-- how a name is written -/
def nameW (l : List UInt8) : List UInt8 × Int := if nameP l then (if bareP l then l else quoteL 34 l, 0) else ([], 23)
theorem odd1_ok (b : UInt8) : (decide (b.toNat < 128) && !odd1 b.toNat) = okB b := by
  have := b.toNat_lt
  unfold odd1 okB
  rw [Bool.eq_iff_iff]
  simp only [Bool.and_eq_true, decide_eq_true_eq, Bool.not_eq_true', Bool.or_eq_false_iff, decide_eq_false_iff_not]
  omega
theorem nameL_eq (l : List UInt8) : nameL l = nameP l := by
  have hd : (⟨l.toArray⟩ : ByteArray).data.toList = l := rfl
  have hs : (⟨l.toArray⟩ : ByteArray).size = l.length := by rw [Lib.size_eq]
  have hi : decide (idxFunc odd1 true ⟨l.toArray⟩ < 0) = l.all okB := by
    unfold idxFunc
    rw [idx_neg odd1 ⟨l.toArray⟩ (fun r hr => by unfold odd1; simp; omega) _ 0 (by omega), hd, List.drop_zero]
    congr 1; funext b; exact odd1_ok b
  unfold nameL nameB nameP
  match l with
  | [] => rfl
  | c :: t =>
    have h0 : 0 < (⟨(c :: t).toArray⟩ : ByteArray).size := by rw [hs]; simp
    rw [dif_pos h0, hi, hs]
    have hg : (⟨(c :: t).toArray⟩ : ByteArray)[0]'h0 = c := rfl
    rw [hg]
    have h64 : (((c.toNat : Int)) != 64) = (c != 64) := by
      rw [Bool.eq_iff_iff]
      simp only [bne_iff_ne, ne_eq, ← UInt8.toNat_inj]
      show ¬ ((c.toNat : Int) = 64) ↔ ¬ c.toNat = 64
      omega
    rw [h64]
    have hh : ((c :: t).head? != some 64) = (c != 64) := by
      rw [Bool.eq_iff_iff]; simp
    rw [hh]
    have h1 : decide (1 ≤ (c :: t).length) = true := by simp
    have h2 : decide (((c :: t).length : Int) ≤ 32) = decide ((c :: t).length ≤ 32) := by
      rw [Bool.eq_iff_iff]; simp only [decide_eq_true_eq]; omega
    rw [h1, h2, Bool.true_and, Bool.and_comm (c != 64)]
theorem nameP_ascii {l : List UInt8} (h : nameP l = true) : ∀ b ∈ l, b.toNat < 128 := by
  intro b hb
  simp only [nameP, Bool.and_eq_true] at h
  have := List.all_eq_true.1 h.2 b hb
  simp only [okB, Bool.and_eq_true, decide_eq_true_eq] at this
  omega
theorem odd2_bare (b : UInt8) (h : b.toNat < 128) : odd2 b.toNat = !bareB b := by
  unfold odd2 bareB
  have e : ((b.toNat : Int)) % 256 = (b.toNat : Int) := by omega
  rw [e, Bool.not_and, Bool.not_not]
  congr 1
  rw [Bool.eq_iff_iff]; simp only [Bool.and_eq_true, decide_eq_true_eq]; omega
theorem odd2_idx (l : List UInt8) (h : nameP l = true) : decide (0 ≤ idxFunc odd2 true ⟨l.toArray⟩) = !l.all bareB := by
  have ha := nameP_ascii h
  unfold idxFunc
  rw [idx_asc odd2 ⟨l.toArray⟩ _ 0 (by omega) (by simpa using ha)]
  show l.any _ = _
  induction l with
  | nil => rfl
  | cons c t ih =>
    rw [List.any_cons, List.all_cons, Bool.not_and, odd2_bare c (ha c (List.mem_cons_self ..))]
    have ha' : ∀ b ∈ t, b.toNat < 128 := fun b hb => ha b (List.mem_cons_of_mem _ hb)
    congr 1
    clear ih h ha
    induction t with
    | nil => rfl
    | cons d t ih => rw [List.any_cons, List.all_cons, Bool.not_and, odd2_bare d (ha' d (List.mem_cons_self ..)), ih (fun b hb => ha' b (List.mem_cons_of_mem _ hb))]
end Go.Proofs.YtlaafpbhhnehgaaDoor
end
section
namespace Go.Proofs.YtlaafpbhhnehgaaDoor
set_option linter.unusedVariables false
set_option linter.unusedSimpArgs false
open Go.RowKit
theorem rdig_c (c : Int) (w : World) : Calls Tryd.prog 34 #[.int .u8 c] w fun e w' => e = .returned (.bool (isDig c)) ∧ w = w' := by
  by_cases h1 : 48 ≤ c
  · by_cases h2 : c ≤ 57
    · have hr : isDig c = true := by unfold isDig; simp [h1, h2]
      have d1 : decide (48 ≤ c) = true := decide_eq_true h1
      have d2 : decide (c ≤ 57) = true := decide_eq_true h2
      rw [hr]; clear hr
      go_enter Tryd.func34, Tryd.ntmps34
      go_wp2
      go_ret
      exact ⟨rfl, rfl⟩
    · have hr : isDig c = false := by unfold isDig; simp [h2]
      have d1 : decide (48 ≤ c) = true := decide_eq_true h1
      have d2 : decide (c ≤ 57) = false := decide_eq_false h2
      rw [hr]; clear hr
      go_enter Tryd.func34, Tryd.ntmps34
      go_wp2
      go_ret
      exact ⟨rfl, rfl⟩
  · have hr : isDig c = false := by unfold isDig; simp [h1]
    have d1 : decide (48 ≤ c) = false := decide_eq_false h1
    rw [hr]; clear hr
    go_enter Tryd.func34, Tryd.ntmps34
    go_wp2
    go_ret
    exact ⟨rfl, rfl⟩
/-- what the document's number answers: the token, the place behind, whether it is right -/
def rnumP (p : Nat) (l : List UInt8) : Int × List UInt8 × Nat × Bool :=
  if dotD l (runL isDig l) then (4, l.take (runL isDig l + 1 + runL isDig (l.drop (runL isDig l + 1))), p + (runL isDig l + 1 + runL isDig (l.drop (runL isDig l + 1))), decide (runL isDig l + 1 + runL isDig (l.drop (runL isDig l + 1)) ≤ 16))
  else (3, bareN l (runL isDig l), p + runL isDig l, intOk (bareN l (runL isDig l)))
theorem bareN_nought (t : List UInt8) (n : Nat) (h : 2 ≤ n) : bareN (48 :: t) n = bareN t (n - 1) := by
  obtain ⟨m, rfl⟩ : ∃ m, n = m + 2 := ⟨n - 2, by omega⟩
  show Lib.trimLeftB ((48 :: t).take (m + 1)) 48 ++ ((48 :: t).drop (m + 1)).take 1 = Lib.trimLeftB (t.take m) 48 ++ (t.drop m).take 1
  rw [List.take_succ_cons, List.drop_succ_cons]
  congr 1
theorem bareN_one (l : List UInt8) (n : Nat) (h1 : 1 ≤ n) (h2 : n = 1 ∨ ∃ c t, l = c :: t ∧ c ≠ 48) : bareN l n = l.take n := by
  have split : ∀ X : List UInt8, X = l.take (n - 1) → X ++ (l.drop (n - 1)).take 1 = l.take n := by
    rintro X rfl
    have : n = n - 1 + 1 := by omega
    conv => rhs; rw [this, List.take_add]
  unfold bareN
  apply split
  unfold Lib.trimLeftB
  rcases h2 with rfl | ⟨c, t, rfl, hc⟩
  · simp
  · match hn : n - 1 with
    | 0 => simp
    | m + 1 => rw [List.take_succ_cons, List.dropWhile_cons_of_neg (by simpa using hc)]
def RNum (p : Nat) (r : Int × List UInt8 × Nat × Bool) (w : World) (e : Ending) (w' : World) : Prop :=
  e = .returned (.tuple #[.agg #[.int .i64 r.1, .string ⟨r.2.1.toArray⟩, .int .i64 (p : Int)], .int .i64 (r.2.2.1 : Int), .bool r.2.2.2]) ∧ Below w.heap.size w w'
theorem run_at {s : ByteArray} {q i n : Nat} (hq : q ≤ i) (h : q + n = i + runL isDig (s.data.toList.drop i)) : (∃ hlt : i < s.size, isDig (s[i]).toNat = true ∧ q + n = (i + 1) + runL isDig (s.data.toList.drop (i + 1))) ∨ (((∃ hlt : i < s.size, isDig (s[i]).toNat = false) ∨ ¬ i < s.size) ∧ i = q + n) := by
  by_cases hlt : i < s.size
  · rw [get_lt hlt, runL] at h
    cases hd : isDig (s[i]).toNat
    · rw [hd] at h; exact .inr ⟨.inl ⟨hlt, hd⟩, by simpa using h.symm⟩
    · rw [hd] at h; simp only [if_true] at h; exact .inl ⟨hlt, hd, by omega⟩
  · rw [List.drop_of_length_le (by rw [← Lib.size_eq]; omega)] at h; exact .inr ⟨.inr hlt, h.symm⟩
theorem dot_at (s : ByteArray) (p n i : Nat) (hi : i = p + n) : (dotD (s.data.toList.drop p) n = true ∧ ∃ h : i + 1 < s.size, ((s[i]'(Nat.lt_of_succ_lt h)).toNat : Int) = 46 ∧ isDig (s[i + 1]'h).toNat = true) ∨
    (dotD (s.data.toList.drop p) n = false ∧ ((¬ i + 1 < s.size) ∨ (∃ h : i + 1 < s.size, ((s[i]'(Nat.lt_of_succ_lt h)).toNat : Int) ≠ 46) ∨ ∃ h : i + 1 < s.size, ((s[i]'(Nat.lt_of_succ_lt h)).toNat : Int) = 46 ∧ isDig (s[i + 1]'h).toNat = false)) := by
  subst hi
  unfold dotD
  rw [List.drop_drop]
  by_cases h : p + n + 1 < s.size
  · rw [get_lt (show p + n < s.size by omega), get_lt h]
    by_cases h46 : s[p + n] = 46
    · cases hd : isDig (s[p + n + 1]).toNat
      · exact .inr ⟨by simp [hd], .inr (.inr ⟨h, by rw [h46]; rfl, hd⟩)⟩
      · exact .inl ⟨by simp [h46, hd], h, by rw [h46]; rfl, hd⟩
    · refine .inr ⟨by simp [h46], .inr (.inl ⟨h, fun e => h46 (UInt8.toNat_inj.1 ?_)⟩)⟩
      have : (s[p + n]).toNat = 46 := by omega
      rw [this]; rfl
  · refine .inr ⟨?_, .inl h⟩
    have hl : (s.data.toList.drop (p + n)).length ≤ 1 := by rw [List.length_drop, ← Lib.size_eq]; omega
    match hd : s.data.toList.drop (p + n), hl with
    | [], _ => rfl
    | [c], _ => rfl
theorem bare_at {s : ByteArray} {f e : Nat} (h1 : f + 1 ≤ e) (he : e ≤ s.size) : (∃ h : f < s.size, f + 1 < e ∧ ((s[f]).toNat : Int) = 48 ∧ bareN (s.data.toList.drop f) (e - f) = bareN (s.data.toList.drop (f + 1)) (e - (f + 1))) ∨
    (((¬ f + 1 < e) ∨ ∃ h : f < s.size, f + 1 < e ∧ ((s[f]).toNat : Int) ≠ 48) ∧ s.extract f e = ⟨(bareN (s.data.toList.drop f) (e - f)).toArray⟩) := by
  have hf : f < s.size := by omega
  by_cases h : f + 1 < e
  · rw [get_lt hf]
    by_cases h48 : s[f] = 48
    · exact .inl ⟨hf, h, by rw [h48]; rfl, by rw [h48, bareN_nought _ _ (by omega)]; rfl⟩
    · refine .inr ⟨.inr ⟨hf, h, fun e2 => h48 (UInt8.toNat_inj.1 ?_)⟩, ?_⟩
      · have : (s[f]).toNat = 48 := by omega
        rw [this]; rfl
      · rw [bareN_one _ _ (by omega) (.inr ⟨_, _, rfl, h48⟩), extr, get_lt hf]
  · exact .inr ⟨.inl h, by rw [bareN_one _ _ (by omega) (.inl (by omega)), extr]⟩
theorem ret_num {p : Nat} {k : Int} {t : List UInt8} {q : Nat} {b : Bool} {R : Int × List UInt8 × Nat × Bool} {w w' : World} (hR : R = (k, t, q, b)) (hb : Below w.heap.size w w') : RNum p R w (.returned (.tuple #[.agg #[.int .i64 k, .string ⟨t.toArray⟩, .int .i64 (p : Int)], .int .i64 (q : Int), .bool b])) w' := by subst hR; exact ⟨rfl, hb⟩
set_option maxRecDepth 100000 in
set_option maxHeartbeats 4000000 in
theorem rnumber_c (s : ByteArray) (p : Nat) (w : World) (hs : s.size ≤ 65536) (hp : p < s.size) (hd : isDig (s[p]).toNat = true) :
    Calls Tryd.prog 50 #[.string s, .int .i64 (p : Int)] w (RNum p (rnumP p (s.data.toList.drop p)) w) := by
  obtain ⟨R, hR⟩ : ∃ R, rnumP p (s.data.toList.drop p) = R := ⟨_, rfl⟩
  rw [hR]
  have hn0 : 1 ≤ runL isDig (s.data.toList.drop p) := by rw [get_lt hp, runL, hd]; simp
  obtain ⟨n, hn⟩ : ∃ n, runL isDig (s.data.toList.drop p) = n := ⟨_, rfl⟩
  have hnl : p + n ≤ s.size := by have := runL_le isDig (s.data.toList.drop p); rw [hn, List.length_drop, ← Lib.size_eq] at this; omega
  unfold rnumP at hR
  rw [hn] at hR hn0
  have HR := hidF hR
  have HN := hidF hn
  clear hR hn hd
  have TR : Hid (∀ (c : Int) (W : World), isDig c = true → Calls Tryd.prog 34 #[.int .u8 c] W fun e w' => e = .returned (.bool true) ∧ W = w') := hidF fun c W h => by rw [← h]; exact rdig_c c W
  have FA : Hid (∀ (c : Int) (W : World), isDig c = false → Calls Tryd.prog 34 #[.int .u8 c] W fun e w' => e = .returned (.bool false) ∧ W = w') := hidF fun c W h => by rw [← h]; exact rdig_c c W
  have HB := hidF (below_box w (.cells #[.int .i64 0, .string ⟨#[]⟩, .int .i64 0] 34))
  go_enter Tryd.func50, Tryd.ntmps50
  go_wp2
  go_loopw [7] (fun v wr => ∃ i : Nat, v = .int .i64 (i : Int) ∧ p ≤ i ∧ i ≤ s.size ∧ Hid (p + n = i + runL isDig (s.data.toList.drop i)) ∧ Hid (wr = w.alloc (.cells #[.int .i64 0, .string ⟨#[]⟩, .int .i64 0] 34))) (fun v _ => s.size - (intOf v).toNat)
  case atStart => exact ⟨p, rfl, by omega, by omega, hidF (by rw [HN.out]), hidF rfl⟩
  case round =>
    obtain ⟨i, rfl, hpi, his, HI, HW⟩ := hrel
    have hw := HW.out
    subst hw
    clear HW
    rcases run_at hpi HI.out with ⟨hlt, hd, hnx⟩ | ⟨key, hi⟩
    · have HX := hidF hnx
      have HD := hidF hd
      clear hnx hd
      go_wp2_with (go_at_call 34; ((with_reducible refine (TR.out _ _ HD.out).mono ?_); rintro e w' ⟨rfl, rfl⟩))
      go_roundw
      case rel => exact ⟨i + 1, by go_num, by omega, by omega, HX, hidF (by first | rfl | trivial)⟩
      case measure => simp [intOf]; omega
    · obtain ⟨i0, rfl⟩ : ∃ i0, i0 = i := ⟨_, rfl⟩
      rcases dot_at s p n i0 hi with ⟨hdt, h2, h46, hdd⟩ | ⟨hdt, hdf⟩
      · have HD2 := hidF hdd
        have HRD : Hid (R = (4, (s.data.toList.drop p).take (n + 1 + runL isDig (s.data.toList.drop (i0 + 1))), p + (n + 1 + runL isDig (s.data.toList.drop (i0 + 1))), decide (n + 1 + runL isDig (s.data.toList.drop (i0 + 1)) ≤ 16))) := hidF (by rw [← HR.out, hdt, if_pos rfl, List.drop_drop, hi, ← Nat.add_assoc])
        obtain ⟨m, hm⟩ : ∃ m, runL isDig (s.data.toList.drop (i0 + 1)) = m := ⟨_, rfl⟩
        rw [hm] at HRD
        have HM := hidF hm
        have HI0 := hidF hi
        have hi0l : i0 < s.size := Nat.lt_of_succ_lt h2
        have hq : (((s[i0]'hi0l).toNat : Int) == 46) = true := by simpa using h46
        clear hdt hdd HR HI hm h46 hi
        rcases key with ⟨hlt, hd⟩ | hlt
        all_goals (try have HD := hidF hd; clear hd)
        all_goals (try (exfalso; omega))
        all_goals go_wp2_with (go_at_call 34; (first | ((with_reducible refine (FA.out _ _ HD.out).mono ?_); rintro e w' ⟨rfl, rfl⟩) | ((with_reducible refine (TR.out _ _ HD2.out).mono ?_); rintro e w' ⟨rfl, rfl⟩)))
        all_goals
          go_loopw [7] (fun v wr => ∃ i : Nat, v = .int .i64 (i : Int) ∧ i0 + 1 ≤ i ∧ i ≤ s.size ∧ Hid (i0 + 1 + m = i + runL isDig (s.data.toList.drop i)) ∧ Hid (wr = w.alloc (.cells #[.int .i64 0, .string ⟨#[]⟩, .int .i64 0] 34))) (fun v _ => s.size - (intOf v).toNat)
          case atStart => exact ⟨i0 + 1, by go_num, by omega, by omega, hidF (by rw [HM.out]), hidF (by first | rfl | trivial)⟩
          case round =>
            obtain ⟨i, rfl, hpi2, his2, HI, HW⟩ := hrel
            have hw := HW.out
            subst hw
            clear HW
            rcases run_at hpi2 HI.out with ⟨hlt2, hd3, hnx⟩ | ⟨key2, hi⟩
            · have HX := hidF hnx
              have HD3 := hidF hd3
              clear hnx hd3
              go_wp2_with (go_at_call 34; ((with_reducible refine (TR.out _ _ HD3.out).mono ?_); rintro e w' ⟨rfl, rfl⟩))
              go_roundw
              case rel => exact ⟨i + 1, by go_num, by omega, by omega, HX, hidF (by first | rfl | trivial)⟩
              case measure => simp [intOf]; omega
            · obtain ⟨b, hb16⟩ : ∃ b, decide (n + 1 + m ≤ 16) = b := ⟨_, rfl⟩
              have hi0 := HI0.out
              have h16 : decide ((i : Int) - (p : Int) ≤ 16) = b := by rw [← hb16, hi, hi0]; apply decide_eq_decide.2; omega
              have HR2 : Hid (R = (4, (s.data.toList.drop p).take (i - p), i, b)) := hidF (by rw [HRD.out, hb16, hi, hi0, show p + n + 1 + m - p = n + 1 + m by omega, ← Nat.add_assoc, ← Nat.add_assoc])
              have hex : s.extract p i = ⟨((s.data.toList.drop p).take (i - p)).toArray⟩ := extr s p i
              generalize (s.data.toList.drop p).take (i - p) = tk at *
              clear hb16 hi hi0
              rcases key2 with ⟨hlt2, hd3⟩ | hlt2
              all_goals (try have HD3 := hidF hd3; clear hd3)
              all_goals go_wp2_with (go_at_call 34; ((with_reducible refine (FA.out _ _ HD3.out).mono ?_); rintro e w' ⟨rfl, rfl⟩))
              all_goals exact bodyPost_ret (v := .tuple #[.agg #[.int .i64 4, .string ⟨tk.toArray⟩, .int .i64 (p : Int)], .int .i64 (i : Int), .bool b]) (by simp [results, Tryd.results50, go_sem, *]) rfl (ret_num HR2.out (by repeat (first | (with_reducible exact Below.refl _ _) | (with_reducible refine below_al ?_ _) | (with_reducible refine below_drewN ?_ _) | (with_reducible refine Below.drew ?_) | (with_reducible refine below_via (by assumption) ?_) | (with_reducible refine below_sc ?_ ?_ _; · (first | (simp; done) | (simp; omega) | omega)))))
      · have HRD : Hid (R = (3, bareN (s.data.toList.drop p) n, i0, intOk (bareN (s.data.toList.drop p) n))) := hidF (by rw [← HR.out, hdt, if_neg Bool.false_ne_true, hi])
        have hpi1 : p + 1 ≤ i0 := by omega
        have HBN : Hid (bareN (s.data.toList.drop p) n = bareN (s.data.toList.drop p) (i0 - p)) := hidF (by rw [hi, show p + n - p = n by omega])
        clear HR HI hi hdt
        rcases key with ⟨hlt, hd⟩ | hlt <;> rcases hdf with h2 | ⟨h2, h46⟩ | ⟨h2, h46, hdd⟩
        all_goals (try have HD := hidF hd; clear hd)
        all_goals (try have HD2 := hidF hdd; clear hdd)
        all_goals (try omega)
        all_goals (try (first | (have hq : (((s[i0]).toNat : Int) == 46) = true := by simpa using h46); clear h46 | (have hq : (((s[i0]).toNat : Int) == 46) = false := by simpa using h46); clear h46))
        all_goals go_wp2_with (go_at_call 34; (first | ((with_reducible refine (FA.out _ _ HD.out).mono ?_); rintro e w' ⟨rfl, rfl⟩) | ((with_reducible refine (FA.out _ _ HD2.out).mono ?_); rintro e w' ⟨rfl, rfl⟩)))
        all_goals
          go_loopw [8] (fun v wr => ∃ f : Nat, v = .int .i64 (f : Int) ∧ p ≤ f ∧ f + 1 ≤ i0 ∧ Hid (bareN (s.data.toList.drop p) n = bareN (s.data.toList.drop f) (i0 - f)) ∧ Hid (wr = w.alloc (.cells #[.int .i64 0, .string ⟨#[]⟩, .int .i64 0] 34))) (fun v _ => s.size - (intOf v).toNat)
          case atStart => exact ⟨p, by go_num, by omega, by omega, HBN, hidF (by first | rfl | trivial)⟩
          case round =>
            obtain ⟨f, rfl, hpf, hfi, HI, HW⟩ := hrel
            have hw := HW.out
            subst hw
            clear HW
            rcases bare_at hfi his with ⟨hlt2, hl1, h48, hnx⟩ | ⟨key2, hex⟩
            · have HX : Hid (bareN (s.data.toList.drop p) n = bareN (s.data.toList.drop (f + 1)) (i0 - (f + 1))) := hidF (by rw [HI.out, hnx])
              have hq8 : (((s[f]).toNat : Int) == 48) = true := by simpa using h48
              clear hnx h48
              go_wp2
              go_roundw
              case rel => exact ⟨f + 1, by go_num, by omega, by omega, HX, hidF (by first | rfl | trivial)⟩
              case measure => simp [intOf]; omega
            · have HR2 := HRD.out
              rw [HI.out] at HR2
              generalize bareN (s.data.toList.drop f) (i0 - f) = tc at *
              have hlen : (⟨tc.toArray⟩ : ByteArray).size = tc.length := by rw [Lib.size_eq]
              have HR3 := hidF HR2
              clear HR2 HI HRD HBN
              rcases key2 with hl1 | ⟨hlt2, hl1, h48⟩
              all_goals (try (have hq8 : (((s[f]).toNat : Int) == 48) = false := by simpa using h48); clear h48)
              all_goals rcases intOk_cases tc with ⟨i1, i2⟩ | ⟨i1, i2⟩ | ⟨i1, i2⟩
              all_goals rw [i2] at HR3
              all_goals clear i2
              all_goals (first
                | (have i4 : decide ((tc.length : Int) < 19) = true := decide_eq_true (by omega))
                | (have i4 : decide ((tc.length : Int) < 19) = false := decide_eq_false (by omega); have i5 : decide ((tc.length : Int) = 19) = true := decide_eq_true (by omega); have i6 : ((tc.length : Int) == 19) = true := beq_iff_eq.2 (by omega); obtain ⟨bb, hi3⟩ : ∃ bb, (Op.bytesLess tc [57, 50, 50, 51, 51, 55, 50, 48, 51, 54, 56, 53, 52, 55, 55, 53, 56, 48, 55] || tc == [57, 50, 50, 51, 51, 55, 50, 48, 51, 54, 56, 53, 52, 55, 55, 53, 56, 48, 55]) = bb := ⟨_, rfl⟩; rw [hi3] at HR3; clear i1)
                | (have i4 : decide ((tc.length : Int) < 19) = false := decide_eq_false (by omega); have i5 : decide ((tc.length : Int) = 19) = false := decide_eq_false (by omega); have i6 : ((tc.length : Int) == 19) = false := beq_eq_false_iff_ne.2 (by omega)))
              all_goals go_wp2_with fail
              all_goals (first
                | exact bodyPost_ret (v := .tuple #[.agg #[.int .i64 3, .string ⟨tc.toArray⟩, .int .i64 (p : Int)], .int .i64 (i0 : Int), .bool true]) (by simp [results, Tryd.results50, go_sem, *]) rfl (ret_num HR3.out (by repeat (first | (with_reducible exact Below.refl _ _) | (with_reducible refine below_al ?_ _) | (with_reducible refine below_drewN ?_ _) | (with_reducible refine Below.drew ?_) | (with_reducible refine below_via (by assumption) ?_) | (with_reducible refine below_sc ?_ ?_ _; · (first | (simp; done) | (simp; omega) | omega)))))
                | exact bodyPost_ret (v := .tuple #[.agg #[.int .i64 3, .string ⟨tc.toArray⟩, .int .i64 (p : Int)], .int .i64 (i0 : Int), .bool false]) (by simp [results, Tryd.results50, go_sem, *]) rfl (ret_num HR3.out (by repeat (first | (with_reducible exact Below.refl _ _) | (with_reducible refine below_al ?_ _) | (with_reducible refine below_drewN ?_ _) | (with_reducible refine Below.drew ?_) | (with_reducible refine below_via (by assumption) ?_) | (with_reducible refine below_sc ?_ ?_ _; · (first | (simp; done) | (simp; omega) | omega)))))
                | exact bodyPost_ret (v := .tuple #[.agg #[.int .i64 3, .string ⟨tc.toArray⟩, .int .i64 (p : Int)], .int .i64 (i0 : Int), .bool bb]) (by simp [results, Tryd.results50, go_sem, *]) rfl (ret_num HR3.out (by repeat (first | (with_reducible exact Below.refl _ _) | (with_reducible refine below_al ?_ _) | (with_reducible refine below_drewN ?_ _) | (with_reducible refine Below.drew ?_) | (with_reducible refine below_via (by assumption) ?_) | (with_reducible refine below_sc ?_ ?_ _; · (first | (simp; done) | (simp; omega) | omega)))))
                | trace_state)
end Go.Proofs.YtlaafpbhhnehgaaDoor
end
section
namespace Go.Proofs.YtlaafpbhhnehgaaDoor
set_option linter.unusedVariables false
set_option linter.unusedSimpArgs false
open Go.RowKit
theorem enter_name1 : ∀ args w, (callFunc 27 args).run Tryd.prog w = .ok (.enter 27 args) w := by
  intro args w
  simp [go_sem, Tryd.func27]
theorem oddG (w : World) : PredGrows Tryd.prog 27 #[] odd2 w := fun W x hx _ => odd_c x W hx
theorem idxO_c (l : List UInt8) (i : Int) (hi : Lib.idxFunc odd2 true ⟨l.toArray⟩ = i) (w : World) :
    Calls Tryd.prog 30 #[.string ⟨l.toArray⟩, .func (.func 27) #[] #[]] w fun e w' => e = .returned (.int .i64 i) ∧ Below w.heap.size w w' := by
  subst hi; exact Tryd.strings_IndexFunc_grows 27 #[] enter_name1 odd2 ⟨l.toArray⟩ w (oddG w)
theorem quoteL_c (l : List UInt8) (w : World) (ht : Tab w) (hs : l.length ≤ 65536) :
    Calls Tryd.prog 32 #[.string ⟨l.toArray⟩, .int .u8 34] w fun e w' => e = .returned (.string ⟨(quoteL 34 l).toArray⟩) ∧ Below w.heap.size w w' :=
  quoted_34 ⟨l.toArray⟩ w ht (by rw [Lib.size_eq]; simpa using (by omega : l.length < 4294967281))
set_option maxRecDepth 100000 in
set_option maxHeartbeats 4000000 in
theorem nameL_c (l : List UInt8) (w : World) (ht : Tab w) :
    Calls Tryd.prog 13 #[.string ⟨l.toArray⟩] w fun e w' => e = .returned (.tuple #[.string ⟨(nameW l).1.toArray⟩, .int .i64 (nameW l).2]) ∧ Below w.heap.size w w' := by
  have hT := hidF ht
  clear ht
  have hne := nameL_eq l
  cases hn : nameP l
  · rw [hn] at hne
    have hw : nameW l = ([], 23) := by unfold nameW; rw [hn]; rfl
    rw [hw]
    go_enter Tryd.func13, Tryd.ntmps13
    go_wp2_with (first | (go_at_call 26; (fail_if_success (have := w1)); ((with_reducible refine (isNameL_c l _ hne _).mono ?_); rintro e w1 ⟨rfl, hb1⟩; (try (replace hb1 := below_undrew hb1)); (try (replace hb1 := below_undrewN hb1)); obtain ⟨hc1, hf1⟩ := bcell hb1; )) | (go_at_call 26; (fail_if_success (have := w2)); ((with_reducible refine (isNameL_c l _ hne _).mono ?_); rintro e w2 ⟨rfl, hb2⟩; (try (replace hb2 := below_undrew hb2)); (try (replace hb2 := below_undrewN hb2)); obtain ⟨hc2, hf2⟩ := bcell hb2; (try (have hz_1_2 : w1.heap.size < w2.heap.size := (by have := hb2.size; (try simp at this); omega))))))
    (exact bodyPost_ret (v := .tuple #[.string ⟨#[]⟩, .int .i64 23]) (by simp [results, Tryd.results13, go_sem, *]) rfl ⟨rfl, (by repeat (first | (with_reducible exact Below.refl _ _) | (with_reducible refine below_al ?_ _) | (with_reducible refine below_drewN ?_ _) | (with_reducible refine Below.drew ?_) | (with_reducible refine below_via (by assumption) ?_) | (with_reducible refine below_sc ?_ ?_ _; · (first | (simp; done) | (simp; omega) | omega))))⟩)
  · rw [hn] at hne
    have hA := hidF (nameP_ascii hn)
    have hl : l.length ≤ 32 ∧ 1 ≤ l.length := by
      simp only [nameP, Bool.and_eq_true, decide_eq_true_eq] at hn
      exact ⟨hn.1.1.2, hn.1.1.1⟩
    have hi := odd2_idx l hn
    match l, hl with
    | c :: t, hl =>
    have hsz : (⟨(c :: t).toArray⟩ : ByteArray).size = t.length + 1 := by rw [Lib.size_eq]; rfl
    have hg : ∀ h : 0 < (⟨(c :: t).toArray⟩ : ByteArray).size, (⟨(c :: t).toArray⟩ : ByteArray)[0]'h = c := fun _ => rfl
    have hasc : Hid (∀ (j : Nat) (b : UInt8), (c :: t)[j]? = some b → b.toNat < 128) := hidF (fun j b hb => hA.out b (List.mem_of_getElem? hb))
    obtain ⟨ix, hix⟩ : ∃ i, Lib.idxFunc odd2 true ⟨(c :: t).toArray⟩ = i := ⟨_, rfl⟩
    rw [hix] at hi
    have hX := hidF hix
    have hN := hidF hn
    have hw : nameW (c :: t) = (if bareP (c :: t) then c :: t else quoteL 34 (c :: t), 0) := by unfold nameW; rw [hn]; rfl
    have hb : bareP (c :: t) = (!isDig c.toNat && (c :: t).all bareB && !isWd (Lib.toUpperA (c :: t))) := rfl
    rw [hw, hb]
    clear hw hb hix hn
    have hlen : (c :: t).length ≤ 140737488355328 := by omega
    have hlen2 : (c :: t).length ≤ 65536 := by omega
    cases h1 : isDig c.toNat
    case' false => cases h2 : (c :: t).all bareB
    case' false.true => cases h3 : isWd (Lib.toUpperA (c :: t))
    all_goals (try rw [h2] at hi)
    all_goals
      go_enter Tryd.func13, Tryd.ntmps13
      go_wp2_with (first | (go_at_call 26; (fail_if_success (have := w1)); ((with_reducible refine (isNameL_c (c :: t) _ hne _).mono ?_); rintro e w1 ⟨rfl, hb1⟩; (try (replace hb1 := below_undrew hb1)); (try (replace hb1 := below_undrewN hb1)); obtain ⟨hc1, hf1⟩ := bcell hb1; )) | (go_at_call 29; (fail_if_success (have := w1)); ((with_reducible refine (isDigit_c _ _).mono ?_); rintro e w1 ⟨rfl, hb1⟩; (try (replace hb1 := below_undrew hb1)); (try (replace hb1 := below_undrewN hb1)); obtain ⟨hc1, hf1⟩ := bcell hb1; )) | (go_at_call 30; (fail_if_success (have := w1)); ((with_reducible refine (idxO_c (c :: t) ix hX.out _).mono ?_); rintro e w1 ⟨rfl, hb1⟩; (try (replace hb1 := below_undrew hb1)); (try (replace hb1 := below_undrewN hb1)); obtain ⟨hc1, hf1⟩ := bcell hb1; )) | (go_at_call 31; (fail_if_success (have := w1)); ((with_reducible refine (upper_c (c :: t) _ hlen hasc.out).mono ?_); rintro e w1 ⟨rfl, hb1⟩; (try (replace hb1 := below_undrew hb1)); (try (replace hb1 := below_undrewN hb1)); obtain ⟨hc1, hf1⟩ := bcell hb1; )) | (go_at_call 15; (fail_if_success (have := w1)); ((with_reducible refine (isWd_c (Lib.toUpperA (c :: t)) _ h3 _ (hT.out.below (by repeat (first | (with_reducible exact Below.refl _ _) | (with_reducible refine below_al ?_ _) | (with_reducible refine below_drewN ?_ _) | (with_reducible refine Below.drew ?_) | (with_reducible refine below_via (by assumption) ?_) | (with_reducible refine below_sc ?_ ?_ _; · (first | (simp; done) | (simp; omega) | omega)))))).mono ?_); rintro e w1 ⟨rfl, hb1⟩; (try (replace hb1 := below_undrew hb1)); (try (replace hb1 := below_undrewN hb1)); obtain ⟨hc1, hf1⟩ := bcell hb1; )) | (go_at_call 32; (fail_if_success (have := w1)); ((with_reducible refine (quoteL_c (c :: t) _ (hT.out.below (by repeat (first | (with_reducible exact Below.refl _ _) | (with_reducible refine below_al ?_ _) | (with_reducible refine below_drewN ?_ _) | (with_reducible refine Below.drew ?_) | (with_reducible refine below_via (by assumption) ?_) | (with_reducible refine below_sc ?_ ?_ _; · (first | (simp; done) | (simp; omega) | omega))))) hlen2).mono ?_); rintro e w1 ⟨rfl, hb1⟩; (try (replace hb1 := below_undrew hb1)); (try (replace hb1 := below_undrewN hb1)); obtain ⟨hc1, hf1⟩ := bcell hb1; )) | (go_at_call 26; (fail_if_success (have := w2)); ((with_reducible refine (isNameL_c (c :: t) _ hne _).mono ?_); rintro e w2 ⟨rfl, hb2⟩; (try (replace hb2 := below_undrew hb2)); (try (replace hb2 := below_undrewN hb2)); obtain ⟨hc2, hf2⟩ := bcell hb2; (try (have hz_1_2 : w1.heap.size < w2.heap.size := (by have := hb2.size; (try simp at this); omega))))) | (go_at_call 29; (fail_if_success (have := w2)); ((with_reducible refine (isDigit_c _ _).mono ?_); rintro e w2 ⟨rfl, hb2⟩; (try (replace hb2 := below_undrew hb2)); (try (replace hb2 := below_undrewN hb2)); obtain ⟨hc2, hf2⟩ := bcell hb2; (try (have hz_1_2 : w1.heap.size < w2.heap.size := (by have := hb2.size; (try simp at this); omega))))) | (go_at_call 30; (fail_if_success (have := w2)); ((with_reducible refine (idxO_c (c :: t) ix hX.out _).mono ?_); rintro e w2 ⟨rfl, hb2⟩; (try (replace hb2 := below_undrew hb2)); (try (replace hb2 := below_undrewN hb2)); obtain ⟨hc2, hf2⟩ := bcell hb2; (try (have hz_1_2 : w1.heap.size < w2.heap.size := (by have := hb2.size; (try simp at this); omega))))) | (go_at_call 31; (fail_if_success (have := w2)); ((with_reducible refine (upper_c (c :: t) _ hlen hasc.out).mono ?_); rintro e w2 ⟨rfl, hb2⟩; (try (replace hb2 := below_undrew hb2)); (try (replace hb2 := below_undrewN hb2)); obtain ⟨hc2, hf2⟩ := bcell hb2; (try (have hz_1_2 : w1.heap.size < w2.heap.size := (by have := hb2.size; (try simp at this); omega))))) | (go_at_call 15; (fail_if_success (have := w2)); ((with_reducible refine (isWd_c (Lib.toUpperA (c :: t)) _ h3 _ (hT.out.below (by repeat (first | (with_reducible exact Below.refl _ _) | (with_reducible refine below_al ?_ _) | (with_reducible refine below_drewN ?_ _) | (with_reducible refine Below.drew ?_) | (with_reducible refine below_via (by assumption) ?_) | (with_reducible refine below_sc ?_ ?_ _; · (first | (simp; done) | (simp; omega) | omega)))))).mono ?_); rintro e w2 ⟨rfl, hb2⟩; (try (replace hb2 := below_undrew hb2)); (try (replace hb2 := below_undrewN hb2)); obtain ⟨hc2, hf2⟩ := bcell hb2; (try (have hz_1_2 : w1.heap.size < w2.heap.size := (by have := hb2.size; (try simp at this); omega))))) | (go_at_call 32; (fail_if_success (have := w2)); ((with_reducible refine (quoteL_c (c :: t) _ (hT.out.below (by repeat (first | (with_reducible exact Below.refl _ _) | (with_reducible refine below_al ?_ _) | (with_reducible refine below_drewN ?_ _) | (with_reducible refine Below.drew ?_) | (with_reducible refine below_via (by assumption) ?_) | (with_reducible refine below_sc ?_ ?_ _; · (first | (simp; done) | (simp; omega) | omega))))) hlen2).mono ?_); rintro e w2 ⟨rfl, hb2⟩; (try (replace hb2 := below_undrew hb2)); (try (replace hb2 := below_undrewN hb2)); obtain ⟨hc2, hf2⟩ := bcell hb2; (try (have hz_1_2 : w1.heap.size < w2.heap.size := (by have := hb2.size; (try simp at this); omega))))) | (go_at_call 26; (fail_if_success (have := w3)); ((with_reducible refine (isNameL_c (c :: t) _ hne _).mono ?_); rintro e w3 ⟨rfl, hb3⟩; (try (replace hb3 := below_undrew hb3)); (try (replace hb3 := below_undrewN hb3)); obtain ⟨hc3, hf3⟩ := bcell hb3; (try (have hz_1_3 : w1.heap.size < w3.heap.size := (by have := hb3.size; (try simp at this); omega))); (try (have hz_2_3 : w2.heap.size < w3.heap.size := (by have := hb3.size; (try simp at this); omega))))) | (go_at_call 29; (fail_if_success (have := w3)); ((with_reducible refine (isDigit_c _ _).mono ?_); rintro e w3 ⟨rfl, hb3⟩; (try (replace hb3 := below_undrew hb3)); (try (replace hb3 := below_undrewN hb3)); obtain ⟨hc3, hf3⟩ := bcell hb3; (try (have hz_1_3 : w1.heap.size < w3.heap.size := (by have := hb3.size; (try simp at this); omega))); (try (have hz_2_3 : w2.heap.size < w3.heap.size := (by have := hb3.size; (try simp at this); omega))))) | (go_at_call 30; (fail_if_success (have := w3)); ((with_reducible refine (idxO_c (c :: t) ix hX.out _).mono ?_); rintro e w3 ⟨rfl, hb3⟩; (try (replace hb3 := below_undrew hb3)); (try (replace hb3 := below_undrewN hb3)); obtain ⟨hc3, hf3⟩ := bcell hb3; (try (have hz_1_3 : w1.heap.size < w3.heap.size := (by have := hb3.size; (try simp at this); omega))); (try (have hz_2_3 : w2.heap.size < w3.heap.size := (by have := hb3.size; (try simp at this); omega))))) | (go_at_call 31; (fail_if_success (have := w3)); ((with_reducible refine (upper_c (c :: t) _ hlen hasc.out).mono ?_); rintro e w3 ⟨rfl, hb3⟩; (try (replace hb3 := below_undrew hb3)); (try (replace hb3 := below_undrewN hb3)); obtain ⟨hc3, hf3⟩ := bcell hb3; (try (have hz_1_3 : w1.heap.size < w3.heap.size := (by have := hb3.size; (try simp at this); omega))); (try (have hz_2_3 : w2.heap.size < w3.heap.size := (by have := hb3.size; (try simp at this); omega))))) | (go_at_call 15; (fail_if_success (have := w3)); ((with_reducible refine (isWd_c (Lib.toUpperA (c :: t)) _ h3 _ (hT.out.below (by repeat (first | (with_reducible exact Below.refl _ _) | (with_reducible refine below_al ?_ _) | (with_reducible refine below_drewN ?_ _) | (with_reducible refine Below.drew ?_) | (with_reducible refine below_via (by assumption) ?_) | (with_reducible refine below_sc ?_ ?_ _; · (first | (simp; done) | (simp; omega) | omega)))))).mono ?_); rintro e w3 ⟨rfl, hb3⟩; (try (replace hb3 := below_undrew hb3)); (try (replace hb3 := below_undrewN hb3)); obtain ⟨hc3, hf3⟩ := bcell hb3; (try (have hz_1_3 : w1.heap.size < w3.heap.size := (by have := hb3.size; (try simp at this); omega))); (try (have hz_2_3 : w2.heap.size < w3.heap.size := (by have := hb3.size; (try simp at this); omega))))) | (go_at_call 32; (fail_if_success (have := w3)); ((with_reducible refine (quoteL_c (c :: t) _ (hT.out.below (by repeat (first | (with_reducible exact Below.refl _ _) | (with_reducible refine below_al ?_ _) | (with_reducible refine below_drewN ?_ _) | (with_reducible refine Below.drew ?_) | (with_reducible refine below_via (by assumption) ?_) | (with_reducible refine below_sc ?_ ?_ _; · (first | (simp; done) | (simp; omega) | omega))))) hlen2).mono ?_); rintro e w3 ⟨rfl, hb3⟩; (try (replace hb3 := below_undrew hb3)); (try (replace hb3 := below_undrewN hb3)); obtain ⟨hc3, hf3⟩ := bcell hb3; (try (have hz_1_3 : w1.heap.size < w3.heap.size := (by have := hb3.size; (try simp at this); omega))); (try (have hz_2_3 : w2.heap.size < w3.heap.size := (by have := hb3.size; (try simp at this); omega))))) | (go_at_call 26; (fail_if_success (have := w4)); ((with_reducible refine (isNameL_c (c :: t) _ hne _).mono ?_); rintro e w4 ⟨rfl, hb4⟩; (try (replace hb4 := below_undrew hb4)); (try (replace hb4 := below_undrewN hb4)); obtain ⟨hc4, hf4⟩ := bcell hb4; (try (have hz_1_4 : w1.heap.size < w4.heap.size := (by have := hb4.size; (try simp at this); omega))); (try (have hz_2_4 : w2.heap.size < w4.heap.size := (by have := hb4.size; (try simp at this); omega))); (try (have hz_3_4 : w3.heap.size < w4.heap.size := (by have := hb4.size; (try simp at this); omega))))) | (go_at_call 29; (fail_if_success (have := w4)); ((with_reducible refine (isDigit_c _ _).mono ?_); rintro e w4 ⟨rfl, hb4⟩; (try (replace hb4 := below_undrew hb4)); (try (replace hb4 := below_undrewN hb4)); obtain ⟨hc4, hf4⟩ := bcell hb4; (try (have hz_1_4 : w1.heap.size < w4.heap.size := (by have := hb4.size; (try simp at this); omega))); (try (have hz_2_4 : w2.heap.size < w4.heap.size := (by have := hb4.size; (try simp at this); omega))); (try (have hz_3_4 : w3.heap.size < w4.heap.size := (by have := hb4.size; (try simp at this); omega))))) | (go_at_call 30; (fail_if_success (have := w4)); ((with_reducible refine (idxO_c (c :: t) ix hX.out _).mono ?_); rintro e w4 ⟨rfl, hb4⟩; (try (replace hb4 := below_undrew hb4)); (try (replace hb4 := below_undrewN hb4)); obtain ⟨hc4, hf4⟩ := bcell hb4; (try (have hz_1_4 : w1.heap.size < w4.heap.size := (by have := hb4.size; (try simp at this); omega))); (try (have hz_2_4 : w2.heap.size < w4.heap.size := (by have := hb4.size; (try simp at this); omega))); (try (have hz_3_4 : w3.heap.size < w4.heap.size := (by have := hb4.size; (try simp at this); omega))))) | (go_at_call 31; (fail_if_success (have := w4)); ((with_reducible refine (upper_c (c :: t) _ hlen hasc.out).mono ?_); rintro e w4 ⟨rfl, hb4⟩; (try (replace hb4 := below_undrew hb4)); (try (replace hb4 := below_undrewN hb4)); obtain ⟨hc4, hf4⟩ := bcell hb4; (try (have hz_1_4 : w1.heap.size < w4.heap.size := (by have := hb4.size; (try simp at this); omega))); (try (have hz_2_4 : w2.heap.size < w4.heap.size := (by have := hb4.size; (try simp at this); omega))); (try (have hz_3_4 : w3.heap.size < w4.heap.size := (by have := hb4.size; (try simp at this); omega))))) | (go_at_call 15; (fail_if_success (have := w4)); ((with_reducible refine (isWd_c (Lib.toUpperA (c :: t)) _ h3 _ (hT.out.below (by repeat (first | (with_reducible exact Below.refl _ _) | (with_reducible refine below_al ?_ _) | (with_reducible refine below_drewN ?_ _) | (with_reducible refine Below.drew ?_) | (with_reducible refine below_via (by assumption) ?_) | (with_reducible refine below_sc ?_ ?_ _; · (first | (simp; done) | (simp; omega) | omega)))))).mono ?_); rintro e w4 ⟨rfl, hb4⟩; (try (replace hb4 := below_undrew hb4)); (try (replace hb4 := below_undrewN hb4)); obtain ⟨hc4, hf4⟩ := bcell hb4; (try (have hz_1_4 : w1.heap.size < w4.heap.size := (by have := hb4.size; (try simp at this); omega))); (try (have hz_2_4 : w2.heap.size < w4.heap.size := (by have := hb4.size; (try simp at this); omega))); (try (have hz_3_4 : w3.heap.size < w4.heap.size := (by have := hb4.size; (try simp at this); omega))))) | (go_at_call 32; (fail_if_success (have := w4)); ((with_reducible refine (quoteL_c (c :: t) _ (hT.out.below (by repeat (first | (with_reducible exact Below.refl _ _) | (with_reducible refine below_al ?_ _) | (with_reducible refine below_drewN ?_ _) | (with_reducible refine Below.drew ?_) | (with_reducible refine below_via (by assumption) ?_) | (with_reducible refine below_sc ?_ ?_ _; · (first | (simp; done) | (simp; omega) | omega))))) hlen2).mono ?_); rintro e w4 ⟨rfl, hb4⟩; (try (replace hb4 := below_undrew hb4)); (try (replace hb4 := below_undrewN hb4)); obtain ⟨hc4, hf4⟩ := bcell hb4; (try (have hz_1_4 : w1.heap.size < w4.heap.size := (by have := hb4.size; (try simp at this); omega))); (try (have hz_2_4 : w2.heap.size < w4.heap.size := (by have := hb4.size; (try simp at this); omega))); (try (have hz_3_4 : w3.heap.size < w4.heap.size := (by have := hb4.size; (try simp at this); omega))))) | (go_at_call 26; (fail_if_success (have := w5)); ((with_reducible refine (isNameL_c (c :: t) _ hne _).mono ?_); rintro e w5 ⟨rfl, hb5⟩; (try (replace hb5 := below_undrew hb5)); (try (replace hb5 := below_undrewN hb5)); obtain ⟨hc5, hf5⟩ := bcell hb5; (try (have hz_1_5 : w1.heap.size < w5.heap.size := (by have := hb5.size; (try simp at this); omega))); (try (have hz_2_5 : w2.heap.size < w5.heap.size := (by have := hb5.size; (try simp at this); omega))); (try (have hz_3_5 : w3.heap.size < w5.heap.size := (by have := hb5.size; (try simp at this); omega))); (try (have hz_4_5 : w4.heap.size < w5.heap.size := (by have := hb5.size; (try simp at this); omega))))) | (go_at_call 29; (fail_if_success (have := w5)); ((with_reducible refine (isDigit_c _ _).mono ?_); rintro e w5 ⟨rfl, hb5⟩; (try (replace hb5 := below_undrew hb5)); (try (replace hb5 := below_undrewN hb5)); obtain ⟨hc5, hf5⟩ := bcell hb5; (try (have hz_1_5 : w1.heap.size < w5.heap.size := (by have := hb5.size; (try simp at this); omega))); (try (have hz_2_5 : w2.heap.size < w5.heap.size := (by have := hb5.size; (try simp at this); omega))); (try (have hz_3_5 : w3.heap.size < w5.heap.size := (by have := hb5.size; (try simp at this); omega))); (try (have hz_4_5 : w4.heap.size < w5.heap.size := (by have := hb5.size; (try simp at this); omega))))) | (go_at_call 30; (fail_if_success (have := w5)); ((with_reducible refine (idxO_c (c :: t) ix hX.out _).mono ?_); rintro e w5 ⟨rfl, hb5⟩; (try (replace hb5 := below_undrew hb5)); (try (replace hb5 := below_undrewN hb5)); obtain ⟨hc5, hf5⟩ := bcell hb5; (try (have hz_1_5 : w1.heap.size < w5.heap.size := (by have := hb5.size; (try simp at this); omega))); (try (have hz_2_5 : w2.heap.size < w5.heap.size := (by have := hb5.size; (try simp at this); omega))); (try (have hz_3_5 : w3.heap.size < w5.heap.size := (by have := hb5.size; (try simp at this); omega))); (try (have hz_4_5 : w4.heap.size < w5.heap.size := (by have := hb5.size; (try simp at this); omega))))) | (go_at_call 31; (fail_if_success (have := w5)); ((with_reducible refine (upper_c (c :: t) _ hlen hasc.out).mono ?_); rintro e w5 ⟨rfl, hb5⟩; (try (replace hb5 := below_undrew hb5)); (try (replace hb5 := below_undrewN hb5)); obtain ⟨hc5, hf5⟩ := bcell hb5; (try (have hz_1_5 : w1.heap.size < w5.heap.size := (by have := hb5.size; (try simp at this); omega))); (try (have hz_2_5 : w2.heap.size < w5.heap.size := (by have := hb5.size; (try simp at this); omega))); (try (have hz_3_5 : w3.heap.size < w5.heap.size := (by have := hb5.size; (try simp at this); omega))); (try (have hz_4_5 : w4.heap.size < w5.heap.size := (by have := hb5.size; (try simp at this); omega))))) | (go_at_call 15; (fail_if_success (have := w5)); ((with_reducible refine (isWd_c (Lib.toUpperA (c :: t)) _ h3 _ (hT.out.below (by repeat (first | (with_reducible exact Below.refl _ _) | (with_reducible refine below_al ?_ _) | (with_reducible refine below_drewN ?_ _) | (with_reducible refine Below.drew ?_) | (with_reducible refine below_via (by assumption) ?_) | (with_reducible refine below_sc ?_ ?_ _; · (first | (simp; done) | (simp; omega) | omega)))))).mono ?_); rintro e w5 ⟨rfl, hb5⟩; (try (replace hb5 := below_undrew hb5)); (try (replace hb5 := below_undrewN hb5)); obtain ⟨hc5, hf5⟩ := bcell hb5; (try (have hz_1_5 : w1.heap.size < w5.heap.size := (by have := hb5.size; (try simp at this); omega))); (try (have hz_2_5 : w2.heap.size < w5.heap.size := (by have := hb5.size; (try simp at this); omega))); (try (have hz_3_5 : w3.heap.size < w5.heap.size := (by have := hb5.size; (try simp at this); omega))); (try (have hz_4_5 : w4.heap.size < w5.heap.size := (by have := hb5.size; (try simp at this); omega))))) | (go_at_call 32; (fail_if_success (have := w5)); ((with_reducible refine (quoteL_c (c :: t) _ (hT.out.below (by repeat (first | (with_reducible exact Below.refl _ _) | (with_reducible refine below_al ?_ _) | (with_reducible refine below_drewN ?_ _) | (with_reducible refine Below.drew ?_) | (with_reducible refine below_via (by assumption) ?_) | (with_reducible refine below_sc ?_ ?_ _; · (first | (simp; done) | (simp; omega) | omega))))) hlen2).mono ?_); rintro e w5 ⟨rfl, hb5⟩; (try (replace hb5 := below_undrew hb5)); (try (replace hb5 := below_undrewN hb5)); obtain ⟨hc5, hf5⟩ := bcell hb5; (try (have hz_1_5 : w1.heap.size < w5.heap.size := (by have := hb5.size; (try simp at this); omega))); (try (have hz_2_5 : w2.heap.size < w5.heap.size := (by have := hb5.size; (try simp at this); omega))); (try (have hz_3_5 : w3.heap.size < w5.heap.size := (by have := hb5.size; (try simp at this); omega))); (try (have hz_4_5 : w4.heap.size < w5.heap.size := (by have := hb5.size; (try simp at this); omega))))) | (go_at_call 26; (fail_if_success (have := w6)); ((with_reducible refine (isNameL_c (c :: t) _ hne _).mono ?_); rintro e w6 ⟨rfl, hb6⟩; (try (replace hb6 := below_undrew hb6)); (try (replace hb6 := below_undrewN hb6)); obtain ⟨hc6, hf6⟩ := bcell hb6; (try (have hz_1_6 : w1.heap.size < w6.heap.size := (by have := hb6.size; (try simp at this); omega))); (try (have hz_2_6 : w2.heap.size < w6.heap.size := (by have := hb6.size; (try simp at this); omega))); (try (have hz_3_6 : w3.heap.size < w6.heap.size := (by have := hb6.size; (try simp at this); omega))); (try (have hz_4_6 : w4.heap.size < w6.heap.size := (by have := hb6.size; (try simp at this); omega))); (try (have hz_5_6 : w5.heap.size < w6.heap.size := (by have := hb6.size; (try simp at this); omega))))) | (go_at_call 29; (fail_if_success (have := w6)); ((with_reducible refine (isDigit_c _ _).mono ?_); rintro e w6 ⟨rfl, hb6⟩; (try (replace hb6 := below_undrew hb6)); (try (replace hb6 := below_undrewN hb6)); obtain ⟨hc6, hf6⟩ := bcell hb6; (try (have hz_1_6 : w1.heap.size < w6.heap.size := (by have := hb6.size; (try simp at this); omega))); (try (have hz_2_6 : w2.heap.size < w6.heap.size := (by have := hb6.size; (try simp at this); omega))); (try (have hz_3_6 : w3.heap.size < w6.heap.size := (by have := hb6.size; (try simp at this); omega))); (try (have hz_4_6 : w4.heap.size < w6.heap.size := (by have := hb6.size; (try simp at this); omega))); (try (have hz_5_6 : w5.heap.size < w6.heap.size := (by have := hb6.size; (try simp at this); omega))))) | (go_at_call 30; (fail_if_success (have := w6)); ((with_reducible refine (idxO_c (c :: t) ix hX.out _).mono ?_); rintro e w6 ⟨rfl, hb6⟩; (try (replace hb6 := below_undrew hb6)); (try (replace hb6 := below_undrewN hb6)); obtain ⟨hc6, hf6⟩ := bcell hb6; (try (have hz_1_6 : w1.heap.size < w6.heap.size := (by have := hb6.size; (try simp at this); omega))); (try (have hz_2_6 : w2.heap.size < w6.heap.size := (by have := hb6.size; (try simp at this); omega))); (try (have hz_3_6 : w3.heap.size < w6.heap.size := (by have := hb6.size; (try simp at this); omega))); (try (have hz_4_6 : w4.heap.size < w6.heap.size := (by have := hb6.size; (try simp at this); omega))); (try (have hz_5_6 : w5.heap.size < w6.heap.size := (by have := hb6.size; (try simp at this); omega))))) | (go_at_call 31; (fail_if_success (have := w6)); ((with_reducible refine (upper_c (c :: t) _ hlen hasc.out).mono ?_); rintro e w6 ⟨rfl, hb6⟩; (try (replace hb6 := below_undrew hb6)); (try (replace hb6 := below_undrewN hb6)); obtain ⟨hc6, hf6⟩ := bcell hb6; (try (have hz_1_6 : w1.heap.size < w6.heap.size := (by have := hb6.size; (try simp at this); omega))); (try (have hz_2_6 : w2.heap.size < w6.heap.size := (by have := hb6.size; (try simp at this); omega))); (try (have hz_3_6 : w3.heap.size < w6.heap.size := (by have := hb6.size; (try simp at this); omega))); (try (have hz_4_6 : w4.heap.size < w6.heap.size := (by have := hb6.size; (try simp at this); omega))); (try (have hz_5_6 : w5.heap.size < w6.heap.size := (by have := hb6.size; (try simp at this); omega))))) | (go_at_call 15; (fail_if_success (have := w6)); ((with_reducible refine (isWd_c (Lib.toUpperA (c :: t)) _ h3 _ (hT.out.below (by repeat (first | (with_reducible exact Below.refl _ _) | (with_reducible refine below_al ?_ _) | (with_reducible refine below_drewN ?_ _) | (with_reducible refine Below.drew ?_) | (with_reducible refine below_via (by assumption) ?_) | (with_reducible refine below_sc ?_ ?_ _; · (first | (simp; done) | (simp; omega) | omega)))))).mono ?_); rintro e w6 ⟨rfl, hb6⟩; (try (replace hb6 := below_undrew hb6)); (try (replace hb6 := below_undrewN hb6)); obtain ⟨hc6, hf6⟩ := bcell hb6; (try (have hz_1_6 : w1.heap.size < w6.heap.size := (by have := hb6.size; (try simp at this); omega))); (try (have hz_2_6 : w2.heap.size < w6.heap.size := (by have := hb6.size; (try simp at this); omega))); (try (have hz_3_6 : w3.heap.size < w6.heap.size := (by have := hb6.size; (try simp at this); omega))); (try (have hz_4_6 : w4.heap.size < w6.heap.size := (by have := hb6.size; (try simp at this); omega))); (try (have hz_5_6 : w5.heap.size < w6.heap.size := (by have := hb6.size; (try simp at this); omega))))) | (go_at_call 32; (fail_if_success (have := w6)); ((with_reducible refine (quoteL_c (c :: t) _ (hT.out.below (by repeat (first | (with_reducible exact Below.refl _ _) | (with_reducible refine below_al ?_ _) | (with_reducible refine below_drewN ?_ _) | (with_reducible refine Below.drew ?_) | (with_reducible refine below_via (by assumption) ?_) | (with_reducible refine below_sc ?_ ?_ _; · (first | (simp; done) | (simp; omega) | omega))))) hlen2).mono ?_); rintro e w6 ⟨rfl, hb6⟩; (try (replace hb6 := below_undrew hb6)); (try (replace hb6 := below_undrewN hb6)); obtain ⟨hc6, hf6⟩ := bcell hb6; (try (have hz_1_6 : w1.heap.size < w6.heap.size := (by have := hb6.size; (try simp at this); omega))); (try (have hz_2_6 : w2.heap.size < w6.heap.size := (by have := hb6.size; (try simp at this); omega))); (try (have hz_3_6 : w3.heap.size < w6.heap.size := (by have := hb6.size; (try simp at this); omega))); (try (have hz_4_6 : w4.heap.size < w6.heap.size := (by have := hb6.size; (try simp at this); omega))); (try (have hz_5_6 : w5.heap.size < w6.heap.size := (by have := hb6.size; (try simp at this); omega))))))
      all_goals (first
        | (exact bodyPost_ret (v := .tuple #[.string ⟨(quoteL 34 (c :: t)).toArray⟩, .int .i64 0]) (by simp [results, Tryd.results13, go_sem, *]) rfl ⟨rfl, (by repeat (first | (with_reducible exact Below.refl _ _) | (with_reducible refine below_al ?_ _) | (with_reducible refine below_drewN ?_ _) | (with_reducible refine Below.drew ?_) | (with_reducible refine below_via (by assumption) ?_) | (with_reducible refine below_sc ?_ ?_ _; · (first | (simp; done) | (simp; omega) | omega))))⟩)
        | (exact bodyPost_ret (v := .tuple #[.string ⟨(c :: t).toArray⟩, .int .i64 0]) (by simp [results, Tryd.results13, go_sem, *]) rfl ⟨rfl, (by repeat (first | (with_reducible exact Below.refl _ _) | (with_reducible refine below_al ?_ _) | (with_reducible refine below_drewN ?_ _) | (with_reducible refine Below.drew ?_) | (with_reducible refine below_via (by assumption) ?_) | (with_reducible refine below_sc ?_ ?_ _; · (first | (simp; done) | (simp; omega) | omega))))⟩)
        | trace_state)
end Go.Proofs.YtlaafpbhhnehgaaDoor
end
section
namespace Go.Proofs.YtlaafpbhhnehgaaDoor
set_option linter.unusedVariables false
set_option linter.unusedSimpArgs false
open Go.RowKit Go.Proofs.YtlaafpbhhnehgaaDoorW.PrintWords Go.Proofs.YtlaafpbhhnehgaaDoorW.PrintLast PLX
theorem tab_at {w0 W : World} (h : Tab w0) (hb : Below w0.heap.size w0 W) : Tab W := h.below hb
theorem tab_drew {w0 : World} (h : Tab w0) : Tab w0.drew := h.below (Below.refl _ _).drew
theorem tab_drewN {w0 : World} {n : Nat} (h : Tab w0) : Tab (w0.drewN n) := h.below (below_drewN (Below.refl _ _) n)
def scanP (s : ByteArray) : List S34 × Int × Int := if s.size ≤ 65536 then (match scanL 1000 s.size s.data.toList with | .ok l => (l, 0, 0) | .error p => ([], p, 20)) else ([], 0, 20)
def xScan.f (s : ByteArray) : Option (List S34 × Int × Int) := some (scanP s)
theorem xScan.calls (s : ByteArray) (r1 : List S34) (r2 r3 : Int) (w : World) (hT : Tab w) (h : xScan.f s = some (r1, r2, r3)) :
    Calls Tryd.prog 10 #[.string s] w fun e w' => ∃ v0_ : Value, e = .returned (.tuple #[v0_, .int .i64 r2, .int .i64 r3]) ∧ Kd.R k34 34 w' w.heap.size (fun _ => True) v0_ r1 ∧ Below w.heap.size w w' := by
  have h2 := Option.some.inj h
  unfold scanP at h2
  by_cases hs : s.size ≤ 65536
  · rw [if_pos hs] at h2
    refine (scan_c s w hT hs).mono ?_
    intro e w' ho
    cases hr : scanL 1000 s.size s.data.toList with
    | ok l =>
      rw [hr] at ho h2
      simp only [Prod.mk.injEq] at h2
      obtain ⟨rfl, rfl, rfl⟩ := h2
      exact ho
    | error p =>
      rw [hr] at ho h2
      simp only [Prod.mk.injEq] at h2
      obtain ⟨rfl, rfl, rfl⟩ := h2
      exact ⟨_, ho.1, Kd.R_nil _ _ _ _ _, ho.2⟩
  · rw [if_neg hs] at h2
    simp only [Prod.mk.injEq] at h2
    obtain ⟨rfl, rfl, rfl⟩ := h2
    refine (scan_big s w (by omega)).mono ?_
    rintro e w' ⟨rfl, hb⟩
    exact ⟨_, rfl, Kd.R_nil _ _ _ _ _, hb⟩
def xName.f (s : ByteArray) : Option (ByteArray × Int) := some (⟨(nameW s.data.toList).1.toArray⟩, (nameW s.data.toList).2)
theorem xName.calls (s : ByteArray) (r1 : ByteArray) (r2 : Int) (w : World) (hT : Tab w) (h : xName.f s = some (r1, r2)) :
    Calls Tryd.prog 13 #[.string s] w fun e w' => e = .returned (.tuple #[.string r1, .int .i64 r2]) ∧ Below w.heap.size w w' := by
  have h2 := Option.some.inj h
  simp only [Prod.mk.injEq] at h2
  obtain ⟨rfl, rfl⟩ := h2
  exact nameL_c s.data.toList w hT
def xIsWord.f (s : ByteArray) : Option Bool := some (isWd s.data.toList)
theorem xIsWord.calls (s : ByteArray) (r : Bool) (w : World) (hT : Tab w) (h : xIsWord.f s = some r) :
    Calls Tryd.prog 15 #[.string s] w fun e w' => e = .returned (.bool r) ∧ Below w.heap.size w w' := by
  cases Option.some.inj h
  exact isWord_k s w hT
def xQuoted.f (s : ByteArray) (q : Int) : Option ByteArray := if q = 39 ∧ s.size < 4294967281 then some ⟨(quoteL 39 s.data.toList).toArray⟩ else none
theorem xQuoted.calls (s : ByteArray) (q : Int) (r : ByteArray) (w : World) (hT : Tab w) (h : xQuoted.f s q = some r) :
    Calls Tryd.prog 32 #[.string s, .int .u8 q] w fun e w' => e = .returned (.string r) ∧ Below w.heap.size w w' := by
  unfold xQuoted.f at h
  split at h
  · rename_i hc
    obtain ⟨rfl, hs⟩ := hc
    cases Option.some.inj h
    exact quoted_39 s w hT hs
  · cases h
def xJoin.f (xs : List ByteArray) (sep : ByteArray) : Option ByteArray :=
  if xs.length ≤ 140737488355328 ∧ (Lib.join (xs.map (·.data.toList)) sep.data.toList).length ≤ 140737488355328 then some ⟨(Lib.join (xs.map (·.data.toList)) sep.data.toList).toArray⟩ else none
theorem xJoin.calls (A0 : Option Addr) (c0 : Nat) (l0 : List ByteArray) (sep r : ByteArray) (w : World) (hr0 : Kd.C Kd.string w A0 l0.length l0) (hc0 : l0.length ≤ c0) (h : xJoin.f l0 sep = some r) :
    Calls Tryd.prog 40 #[.slice A0 l0.length c0, .string sep] w fun e w' => e = .returned (.string r) ∧ Below w.heap.size w w' := by
  unfold xJoin.f at h
  split at h
  · rename_i hc
    cases Option.some.inj h
    obtain ⟨h1, h2, h3⟩ := hr0
    match l0, hc, h3, hc0 with
    | [], _, _, _ =>
      refine (Tryd.strings_Join_none A0 c0 sep w).mono ?_
      rintro e w' ⟨rfl, rfl⟩
      exact ⟨rfl, Below.refl _ _⟩
    | x :: t, hc, h3, hc0 =>
      obtain ⟨ad, rfl, hcells⟩ := h3 (by simp)
      have cell : ∀ (j : Nat) y, (x :: t)[j]? = some y → w.cell? (ad.add j) = some (.string y) := by
        intro j y hy
        obtain ⟨c, hl, hK, hcl⟩ := hcells j y hy
        have hK' : c = [.string y] := hK
        subst hK'
        have := hcl 0 (.string y) rfl
        simpa [show Kd.string.sz = 1 from rfl] using this
      have hsp : ad.spot = none := by
        have h0 := cell 0 x rfl
        simp only [Addr.add, if_true] at h0
        unfold World.cell? at h0
        cases hh : ad.spot with
        | none => rfl
        | some k =>
          rw [hh] at h0
          split at h0 <;> simp at h0
      obtain ⟨bk, o, spt⟩ := ad
      simp only at hsp
      subst hsp
      have cell2 : ∀ (j : Nat) y, (x :: t)[j]? = some y → w.cell? ⟨bk, o + j, none⟩ = some (.string y) := by
        intro j y hy
        have := cell j y hy
        unfold Addr.add at this
        split at this
        · subst_vars; simpa using this
        · exact this
      exact Tryd.strings_Join bk o c0 (x :: t) sep w cell2 (World.block_lt_of_cell? w _ (cell2 0 x rfl)) hc.1 hc0 hc.2
  · cases h
def xrIsWord.f (s : ByteArray) : Option Bool := if s.size ≤ 140737488355328 then some (isRW s.data.toList) else none
theorem xrIsWord.calls (s : ByteArray) (r : Bool) (w : World) (h : xrIsWord.f s = some r) :
    Calls Tryd.prog 16 #[.string s] w fun e w' => e = .returned (.bool r) ∧ Below w.heap.size w w' := by
  unfold xrIsWord.f at h
  split at h
  · cases Option.some.inj h
    exact rIsWord_c s w (by assumption)
  · cases h
end Go.Proofs.YtlaafpbhhnehgaaDoor
end
section
namespace Go.Proofs.YtlaafpbhhnehgaaDoor
set_option linter.unusedVariables false
set_option linter.unusedSimpArgs false
open Go.RowKit Go.Proofs.YtlaafpbhhnehgaaDoorW.PrintWords Go.Proofs.YtlaafpbhhnehgaaDoorW.PrintLast PLX
def xrNumber.f (s : ByteArray) (p : Int) : Option (Int × ByteArray × Int × Int × Bool) :=
  if h : 0 ≤ p ∧ p.toNat < s.size ∧ s.size ≤ 65536 then
    (if isDig (s[p.toNat]'h.2.1).toNat = true then some ((rnumP p.toNat (s.data.toList.drop p.toNat)).1, ⟨(rnumP p.toNat (s.data.toList.drop p.toNat)).2.1.toArray⟩, p, ((rnumP p.toNat (s.data.toList.drop p.toNat)).2.2.1 : Int), (rnumP p.toNat (s.data.toList.drop p.toNat)).2.2.2) else none)
  else none
theorem xrNumber.calls (s : ByteArray) (p : Int) (r1 : Int) (r2 : ByteArray) (r3 r4 : Int) (r5 : Bool) (w : World) (h : xrNumber.f s p = some (r1, r2, r3, r4, r5)) :
    Calls Tryd.prog 50 #[.string s, .int .i64 p] w fun e w' => e = .returned (.tuple #[.agg #[.int .i64 r1, .string r2, .int .i64 r3], .int .i64 r4, .bool r5]) ∧ Below w.heap.size w w' := by
  unfold xrNumber.f at h
  split at h
  · rename_i hp
    split at h
    · rename_i hd
      simp only [Option.some.injEq, Prod.mk.injEq] at h
      obtain ⟨rfl, rfl, rfl, rfl, rfl⟩ := h
      have := rnumber_c s p.toNat w hp.2.2 hp.2.1 hd
      have e : ((p.toNat : Nat) : Int) = p := Int.toNat_of_nonneg hp.1
      unfold RNum at this
      rw [e] at this
      exact this
    · cases h
  · cases h
theorem xrNumber_at (s : ByteArray) (p : Nat) (hs : s.size ≤ 65536) (hp : p < s.size) (hd : isDig (s[p]).toNat = true) :
    xrNumber.f s (p : Int) = some ((rnumP p (s.data.toList.drop p)).1, ⟨(rnumP p (s.data.toList.drop p)).2.1.toArray⟩, (p : Int), ((rnumP p (s.data.toList.drop p)).2.2.1 : Int), (rnumP p (s.data.toList.drop p)).2.2.2) := by
  unfold xrNumber.f
  rw [dif_pos ⟨by omega, by simpa using hp, hs⟩]
  simp only [Int.toNat_natCast]
  rw [if_pos hd]
end Go.Proofs.YtlaafpbhhnehgaaDoor
end
section
namespace Go.Proofs.YtlaafpbhhnehgaaDoor
set_option linter.unusedVariables false
set_option linter.unusedSimpArgs false
open Go.RowKit
theorem search_iff (l : List UInt8) : ∀ (f i : Nat), searchR l f i = true ↔ ∃ j, i ≤ j ∧ j < i + f ∧ j + l.length + 2 ≤ 287 ∧ (wordsT.drop j).take (l.length + 2) = 32 :: (l ++ [32])
  | 0, i => by
    constructor
    · intro h; simp [searchR] at h
    · rintro ⟨j, h1, h2, _⟩; omega
  | f + 1, i => by
    have ih := search_iff l f (i + 1)
    rw [searchR]
    by_cases h1 : i + l.length + 2 ≤ 287
    · rw [if_pos h1]
      by_cases h2 : (wordsT.drop i).take (l.length + 2) = 32 :: (l ++ [32])
      · rw [if_pos h2]
        exact ⟨fun _ => ⟨i, Nat.le_refl _, by omega, h1, h2⟩, fun _ => rfl⟩
      · rw [if_neg h2, ih]
        constructor
        · rintro ⟨j, a, b, c, d⟩; exact ⟨j, by omega, by omega, c, d⟩
        · rintro ⟨j, a, b, c, d⟩
          refine ⟨j, ?_, by omega, c, d⟩
          by_cases hj : j = i
          · subst hj; exact absurd d h2
          · omega
    · rw [if_neg h1]
      constructor
      · intro h; cases h
      · rintro ⟨j, a, b, c, d⟩; omega
theorem words_in : wordsL.all (fun w => w.all capB && (decide (0 < w.length) && searchR w 300 0)) = true := by decide +kernel
theorem words_at : (List.range 287).all (fun j => !((wordsT.drop j).head? == some 32) || (((wordsT.drop (j + 1)).takeWhile (· != 32)) == [] || wordsL.contains ((wordsT.drop (j + 1)).takeWhile (· != 32)))) = true := by decide +kernel
theorem cap_ne {b : UInt8} (h : capB b = true) : (b != 32) = true := by
  have : b ≠ 32 := by rintro rfl; simp [capB] at h
  simpa using this
theorem takeW (l r : List UInt8) (h : l.all capB = true) : (l ++ 32 :: r).takeWhile (· != 32) = l := by
  induction l with
  | nil => simp
  | cons c t ih =>
    rw [List.all_cons, Bool.and_eq_true] at h
    rw [List.cons_append, List.takeWhile_cons, cap_ne h.1, if_pos rfl, ih h.2]
theorem isRW_eq (l : List UInt8) : isRW l = isWd l := by
  rw [Bool.eq_iff_iff]
  constructor
  · intro h
    simp only [isRW, Bool.and_eq_true, decide_eq_true_eq] at h
    obtain ⟨hc, hl, hs⟩ := h
    obtain ⟨j, _, hj, hj2, he⟩ := (search_iff l 300 0).1 hs
    have h1 : wordsT.drop j = (32 :: (l ++ [32])) ++ (wordsT.drop j).drop (l.length + 2) := by
      rw [← he, List.take_append_drop]
    have h2 : wordsT.drop (j + 1) = l ++ 32 :: (wordsT.drop j).drop (l.length + 2) := by
      rw [← List.drop_drop, h1]; simp
    have hw := List.all_eq_true.1 words_at j (List.mem_range.2 (by omega))
    rw [h2, takeW _ _ hc, h1] at hw
    simp only [List.cons_append, List.head?_cons, beq_self_eq_true, Bool.not_true, Bool.false_or, Bool.or_eq_true] at hw
    rcases hw with hw | hw
    · have : l = [] := by simpa using hw
      rw [this] at hl; simp at hl
    · exact hw
  · intro h
    have hm : l ∈ wordsL := by unfold isWd at h; simpa using h
    exact List.all_eq_true.1 words_in l hm
end Go.Proofs.YtlaafpbhhnehgaaDoor
end
section
namespace Go.Proofs.YtlaafpbhhnehgaaDoor
set_option linter.unusedVariables false
set_option linter.unusedSimpArgs false
open Go.RowKit Go.Proofs.YtlaafpbhhnehgaaDoorW.PrintWords Go.Proofs.YtlaafpbhhnehgaaDoorW.PrintLast PLX
theorem take_self {l x : List UInt8} {n : Nat} (h : x = l.take n) (hn : n ≤ l.length) : x = l.take x.length := by
  have : x.length = n := by rw [h, List.length_take]; omega
  rw [this]; exact h
/-- what a token is like -/
structure TokOk (l : List UInt8) (k : Int) (x : List UInt8) : Prop where
  lo : 1 ≤ k
  hi : k ≤ 6
  some_ : x ≠ [] ∨ k = 5
  there : k = 6 ∨ k = 4 → x = l.take x.length ∧ x.length ≤ l.length
  word : k = 2 → isWd x = true
theorem run_pos {p : Int → Bool} {c : UInt8} {t : List UInt8} (h : p c.toNat = true) : 1 ≤ runL p (c :: t) := by rw [runL, if_pos h]; omega
theorem pre_take {l p : List UInt8} (h : Lib.hasPrefix l p = true) : p = l.take p.length ∧ p.length ≤ l.length := by
  have := List.isPrefixOf_iff_prefix.1 h
  exact ⟨List.prefix_iff_eq_take.1 this, this.length_le⟩
theorem tok_ok {l : List UInt8} {k : Int} {x : List UInt8} {m : Nat} (h : tokL l = some (k, x, m)) : TokOk l k x := by
  match l, h with
  | c :: t, h =>
    rw [tokL] at h
    by_cases h1 : isLet c.toNat = true
    · rw [if_pos h1] at h
      have hi : isInn c.toNat = true := by simp [isInn, h1]
      have hr := run_pos (t := t) hi
      obtain ⟨n, hn⟩ : ∃ n, runL isInn (c :: t) = n + 1 := ⟨runL isInn (c :: t) - 1, by omega⟩
      unfold wordT at h
      rw [hn, List.take_succ_cons] at h
      split at h
      · rename_i hw
        simp only [Option.some.injEq, Prod.mk.injEq] at h
        obtain ⟨rfl, rfl, rfl⟩ := h
        exact ⟨by omega, by omega, .inl (by simp [Lib.toUpperA]), fun hh => by omega, fun _ => hw⟩
      · split at h
        · simp only [Option.some.injEq, Prod.mk.injEq] at h
          obtain ⟨rfl, rfl, rfl⟩ := h
          exact ⟨by omega, by omega, .inl (by simp [Lib.toLowerA]), fun hh => by omega, fun hh => by omega⟩
        · cases h
    · rw [if_neg h1] at h
      by_cases h2 : isDig c.toNat = true
      · rw [if_pos h2] at h
        have hr1 := run_pos (t := t) h2
        have hr2 := runL_le isDig (c :: t)
        have ht := tok_le (l := c :: t) (k := k) (x := x) (m := m) (by rw [tokL, if_neg h1, if_pos h2]; exact h)
        unfold numT at h
        split at h
        · split at h
          · simp only [Option.some.injEq, Prod.mk.injEq] at h
            obtain ⟨rfl, rfl, rfl⟩ := h
            refine ⟨by omega, by omega, .inl ?_, fun _ => ⟨take_self rfl ht.2, by rw [List.length_take]; omega⟩, fun hh => by omega⟩
            intro hc
            have := congrArg List.length hc
            rw [List.length_take] at this
            simp only [List.length_nil] at this
            omega
          · cases h
        · split at h
          · simp only [Option.some.injEq, Prod.mk.injEq] at h
            obtain ⟨rfl, rfl, rfl⟩ := h
            refine ⟨by omega, by omega, .inl ?_, fun hh => by omega, fun hh => by omega⟩
            intro hc
            have := congrArg List.length hc
            unfold bareN at this
            rw [List.length_append, List.length_take, List.length_drop] at this
            simp only [List.length_nil] at this
            omega
          · cases h
      · rw [if_neg h2] at h
        by_cases h3 : c = 34
        · rw [if_pos h3] at h
          cases hb : betL 34 t with
          | none => rw [hb] at h; simp [nameT] at h
          | some r =>
            rw [hb] at h
            simp only [nameT] at h
            split at h
            · rename_i hn
              simp only [Option.some.injEq, Prod.mk.injEq] at h
              obtain ⟨rfl, rfl, rfl⟩ := h
              refine ⟨by omega, by omega, .inl ?_, fun hh => by omega, fun hh => by omega⟩
              intro hc
              rw [hc] at hn
              rw [nameL_eq] at hn
              simp [nameP] at hn
            · cases h
        · rw [if_neg h3] at h
          by_cases h4 : c = 39
          · rw [if_pos h4] at h
            cases hb : betL 39 t with
            | none => rw [hb] at h; simp [textT] at h
            | some r =>
              rw [hb] at h
              simp only [textT] at h
              split at h
              · simp only [Option.some.injEq, Prod.mk.injEq] at h
                obtain ⟨rfl, rfl, rfl⟩ := h
                exact ⟨by omega, by omega, .inr rfl, fun hh => by omega, fun hh => by omega⟩
              · cases h
          · rw [if_neg h4] at h
            have two : ∀ i, twoS i ≠ [] := by intro i; unfold twoS; split <;> simp
            unfold signT at h
            split at h
            · rename_i hh
              simp only [Option.some.injEq, Prod.mk.injEq] at h; obtain ⟨rfl, rfl, rfl⟩ := h
              exact ⟨by omega, by omega, .inl (two 0), fun _ => pre_take hh, fun hh => by omega⟩
            · split at h
              · rename_i hh
                simp only [Option.some.injEq, Prod.mk.injEq] at h; obtain ⟨rfl, rfl, rfl⟩ := h
                exact ⟨by omega, by omega, .inl (two 1), fun _ => pre_take hh, fun hh => by omega⟩
              · split at h
                · rename_i hh
                  simp only [Option.some.injEq, Prod.mk.injEq] at h; obtain ⟨rfl, rfl, rfl⟩ := h
                  exact ⟨by omega, by omega, .inl (two 2), fun _ => pre_take hh, fun hh => by omega⟩
                · split at h
                  · rename_i hh
                    simp only [Option.some.injEq, Prod.mk.injEq] at h; obtain ⟨rfl, rfl, rfl⟩ := h
                    exact ⟨by omega, by omega, .inl (two 3), fun _ => pre_take hh, fun hh => by omega⟩
                  · split at h
                    · simp only [Option.some.injEq, Prod.mk.injEq] at h; obtain ⟨rfl, rfl, rfl⟩ := h
                      exact ⟨by omega, by omega, .inl (by simp), fun _ => ⟨by simp, by simp⟩, fun hh => by omega⟩
                    · cases h
/-- what is left behind skip is an end of what was there -/
theorem skip_suf : ∀ (l : List UInt8) (m : Nat) (st : List UInt8), (∃ n, (skipL m st l).1 = l.drop n) ∨ (skipL m st l).1 = st
  | [], m, st => by
    unfold skipL; split
    · exact .inr rfl
    · exact .inl ⟨0, rfl⟩
  | c :: t, m, st => by
    have up : ∀ m' st', ((∃ n, (skipL m' st' t).1 = t.drop n) ∨ (skipL m' st' t).1 = st') → (st' = st ∨ st' = [] ∨ st' = c :: t) → (∃ n, (skipL m' st' t).1 = (c :: t).drop n) ∨ (skipL m' st' t).1 = st := by
      intro m' st' h hs
      rcases h with ⟨n, h⟩ | h
      · exact .inl ⟨n + 1, h⟩
      · rcases hs with hs | hs | hs
        · exact .inr (h.trans hs)
        · exact .inl ⟨(c :: t).length, by rw [h, hs, List.drop_length]⟩
        · exact .inl ⟨0, by rw [h, hs]; rfl⟩
    unfold skipL
    split
    · split
      · exact up _ _ (skip_suf t 0 []) (.inr (.inl rfl))
      · split
        · exact up _ _ (skip_suf t 1 []) (.inr (.inl rfl))
        · split
          · exact up _ _ (skip_suf t 2 (c :: t)) (.inr (.inr rfl))
          · exact .inl ⟨0, rfl⟩
    · split
      · split
        · exact up _ _ (skip_suf t 0 []) (.inr (.inl rfl))
        · exact up _ _ (skip_suf t 1 []) (.inr (.inl rfl))
      · split
        · exact up _ _ (skip_suf t 3 st) (.inl rfl)
        · split
          · split
            · exact up _ _ (skip_suf t 4 st) (.inl rfl)
            · exact up _ _ (skip_suf t 3 st) (.inl rfl)
          · exact up _ _ (skip_suf t 0 []) (.inr (.inl rfl))
theorem skip_drop (l : List UInt8) : ∃ n, n ≤ l.length ∧ (skipL 0 [] l).1 = l.drop n := by
  rcases skip_suf l 0 [] with ⟨n, h⟩ | h
  · by_cases hn : n ≤ l.length
    · exact ⟨n, hn, h⟩
    · exact ⟨l.length, Nat.le_refl _, by rw [h, List.drop_of_length_le (by omega), List.drop_length]⟩
  · exact ⟨l.length, Nat.le_refl _, by rw [h, List.drop_length]⟩
/-- tokens that stand in rising places of the text L, from lo on -/
def PLs (L : List UInt8) : Nat → List S34 → Prop
  | _, [] => False
  | lo, [e] => e = ⟨0, ⟨#[]⟩, (L.length : Int)⟩ ∧ lo ≤ L.length
  | lo, t :: u :: r => ∃ q : Nat, lo ≤ q ∧ q < L.length ∧ t.f2 = q ∧ TokOk (L.drop q) t.f0 t.f1.data.toList ∧ PLs L (q + 1) (u :: r)
theorem PLs.mono {L : List UInt8} : ∀ {l : List S34} {a b : Nat}, a ≤ b → PLs L b l → PLs L a l
  | [], _, _, _, h => h
  | [e], _, _, hab, h => ⟨h.1, Nat.le_trans hab h.2⟩
  | t :: u :: r, _, _, hab, ⟨q, h1, h2⟩ => ⟨q, Nat.le_trans hab h1, h2⟩
theorem PLs.cons {L : List UInt8} {lo q : Nat} {t : S34} {l : List S34} (h1 : lo ≤ q) (h2 : q < L.length) (h3 : t.f2 = q) (h4 : TokOk (L.drop q) t.f0 t.f1.data.toList) (h5 : PLs L (q + 1) l) : PLs L lo (t :: l) := by
  match l, h5 with
  | u :: r, h5 => exact ⟨q, h1, h2, h3, h4, h5⟩
theorem scan_places (L : List UInt8) : ∀ (d p : Nat) (l : List S34), p ≤ L.length → scanL d L.length (L.drop p) = .ok l → PLs L p l ∧ l.length ≤ d + 1 := by
  intro d
  induction d with
  | zero =>
    intro p l hp h
    unfold scanL at h
    split at h
    · cases h
    · split at h
      · cases h; exact ⟨⟨rfl, hp⟩, by simp⟩
      · cases h
  | succ d ih =>
    intro p l hp h
    unfold scanL at h
    obtain ⟨n, hn, hsk⟩ := skip_drop (L.drop p)
    rw [List.length_drop] at hn
    rw [List.drop_drop] at hsk
    rw [hsk] at h
    split at h
    · cases h
    · split at h
      · cases h; exact ⟨⟨rfl, hp⟩, by simp⟩
      · rename_i hne
        have hq : p + n < L.length := by
          by_cases hc : p + n < L.length
          · exact hc
          · exact absurd (List.drop_of_length_le (by omega)) hne
        cases ht : tokL (L.drop (p + n)) with
        | none => rw [ht] at h; cases h
        | some r =>
          obtain ⟨k, x, m⟩ := r
          rw [ht] at h
          simp only [List.drop_drop] at h
          have hm := tok_le ht
          rw [List.length_drop] at hm
          cases hs : scanL d L.length (L.drop (p + n + m)) with
          | error e => rw [hs] at h; cases h
          | ok l' =>
            rw [hs] at h
            simp only [Except.map, Except.ok.injEq] at h
            subst h
            obtain ⟨i1, i2⟩ := ih (p + n + m) l' (by omega) hs
            have hl : L.length - (L.drop (p + n)).length = p + n := by rw [List.length_drop]; omega
            refine ⟨PLs.cons (q := p + n) (by omega) hq (by simp only [hl]) (tok_ok ht) (i1.mono (by omega)), by simp; omega⟩
end Go.Proofs.YtlaafpbhhnehgaaDoor
end
