/- a part of the claim: what the card leans on, out of the texts L18, LP4, L19, XL, LQ1, LM1 (put together by wip/tools/shake.py). -/
import Derived.Test.YtlaafpbhhnehgaaDoorSB4
import Derived.Test.YtlaafpbhhnehgaaDoorSB5
import Derived.Deep.RegionHeld3
import Derived.Laws.RangeAny
section
namespace Go.Proofs.YtlaafpbhhnehgaaDoor
set_option linter.unusedVariables false
set_option linter.unusedSimpArgs false
open Go.RowKit Go.Proofs.YtlaafpbhhnehgaaDoorW.PrintWords Go.Proofs.YtlaafpbhhnehgaaDoorW.PrintLast PLX
set_option maxRecDepth 100000 in
set_option maxHeartbeats 2000000 in
theorem scan_big (s : ByteArray) (w : World) (hs : 65536 < s.size) :
    Calls Tryd.prog 10 #[.string s] w fun e w' => e = .returned (.tuple #[.slice none 0 0, .int .i64 0, .int .i64 20]) ∧ Below w.heap.size w w' := by
  go_enter_defers Tryd.func10, Tryd.ntmps10
  go_wp2_with fail
  exact ⟨.tuple #[.slice none 0 0, .int .i64 0, .int .i64 20], by simp [results, Tryd.results10, go_sem], rfl, (by repeat (first | (with_reducible exact Below.refl _ _) | (with_reducible refine below_al ?_ _) | (with_reducible refine below_drewN ?_ _) | (with_reducible refine Below.drew ?_) | (with_reducible refine below_via (by assumption) ?_) | (with_reducible refine below_sc ?_ ?_ _; · (first | (simp; done) | (simp; omega) | omega))))⟩
set_option maxRecDepth 100000 in
set_option maxHeartbeats 4000000 in
theorem scan_c (s : ByteArray) (w : World) (ht : Tab w) (hs : s.size ≤ 65536) :
    Calls Tryd.prog 10 #[.string s] w (OutS (scanL 1000 s.size s.data.toList) w) := by
  have hT := hidF ht
  clear ht
  have hmf : ∀ (fn : Fn) (first cap : Array Value) (w : World), (Instr.makeFunc fn first cap).run Tryd.prog w = .ok (.func fn first cap) w := fun _ _ _ _ => rfl
  obtain ⟨R, hR⟩ : ∃ R, scanL 1000 s.size s.data.toList = R := ⟨_, rfl⟩
  rw [hR]
  go_enter_defers Tryd.func10, Tryd.ntmps10
  go_wp2_with fail
  go_loopw [] (fun wr => ∃ (p : Nat) (toks : List S34) (v : Value), p ≤ s.size ∧ toks.length ≤ 1000 ∧ Lp w.heap.size s w wr p toks v ∧ R = (scanL (1000 - toks.length) s.size (s.data.toList.drop p)).map (toks ++ ·)) (fun wr => 1000 - tokN wr w.heap.size)
  case atStart =>
    refine ⟨0, [], .slice none 0 0, by omega, by simp, ⟨⟨by simp [go_sem], by simp [go_sem], by simp [go_sem]⟩, (by repeat (first | (with_reducible exact Below.refl _ _) | (with_reducible refine below_al ?_ _) | (with_reducible refine below_drewN ?_ _) | (with_reducible refine Below.drew ?_) | (with_reducible refine below_via (by assumption) ?_) | (with_reducible refine below_sc ?_ ?_ _; · (first | (simp; done) | (simp; omega) | omega)))), by simp [go_sem], by simp [go_sem], by simp [go_sem], by simp [go_sem], by simp [go_sem], by simp [go_sem], Kd.R_nil _ _ _ _ _⟩, ?_⟩
    rw [← hR, List.drop_zero]
    show _ = Except.map _ (scanL 1000 _ _)
    cases scanL 1000 s.size s.data.toList <;> simp [Except.map]
  case round =>
    obtain ⟨p, toks, v, hp, hn, HL, he⟩ := hrel
    have HH := hidF HL
    have HE := hidF he
    clear HL he
    go_wp2_with (go_at_call 20; (refine (skip_c (w.heap.size + 1 + 1 + 1) s p w wr hT.out HH.out.below (by omega) hs HH.out.sc hp).mono ?_); rintro e w1 ⟨q, hq, hF, hS1, ⟨hsk, rfl⟩ | ⟨hsk, rfl⟩⟩ <;> (have H1 := hidF (HH.out.fr hF hS1)))
    rotate_left
    · skip
      have hl := H1.out.lt
      refine leaves_cons (f := 19) (args := #[.pointer (some ⟨w.heap.size, 0, none⟩), .pointer (some ⟨w.heap.size + 1, 0, none⟩), .pointer (some ⟨w.heap.size + 1 + 1, 0, none⟩)]) (by simp [fl]) (by simp [go_sem]) ?_
      refine (scan1_pan w.heap.size w.heap.size (w.heap.size + 1) (w.heap.size + 1 + 1) q _ v (.int .i64 0) (.int .i64 0) (Nat.le_refl _) (by omega) (by omega) (by omega) H1.out.c0 H1.out.c1 H1.out.c2 H1.out.f0 H1.out.f1 H1.out.f2).mono ?_
      rintro e u' w9 ⟨rfl, rfl, hb9, d0, d1, d2⟩
      exact ⟨.tuple #[.slice none 0 0, .int .i64 q, .int .i64 20], by simp [results, Tryd.results10, go_sem, d0, d1, d2], outS_err (scan_f hq hsk HE.out) rfl (H1.out.below.trans hb9)⟩
    · skip
      obtain ⟨A, c, rfl, htn⟩ := H1.out.len
      by_cases hqe : q = s.size
      · have hem : (dropB s q).toList.isEmpty = true := by
          rw [ByteArray.toList_eq, dropB_list, List.drop_of_length_le (by rw [← Lib.size_eq]; omega)]; rfl
        have HQ := hidF hqe
        clear hqe
        go_wp2_with (first | (go_at_call 21; (refine (rest_c (w.heap.size + 1 + 1 + 1) s q w1 H1.out.sc (by omega) (by omega)).mono ?_); rintro e w2 ⟨rfl, hb2⟩; have H2 := hidF (H1.out.bl hb2); have hl2 := H2.out.lt; have d0 := H2.out.c0; have d1 := H2.out.c1; have d2 := H2.out.c2; have g0 := H2.out.f0; have g1 := H2.out.f1; have g2 := H2.out.f2) | ((with_reducible refine gate_builtin (b := .append) (xs := #[.tmp 21, .tmp 25]) rfl ?_); at_builtin; go_loud (refine Kd.R_append k34 (w0 := w2) (w.heap.size + 4) rfl (.tmp 21) (.tmp 25) 23 34 (.agg #[(.int .i64 0), (.string ⟨#[]⟩), (.int .i64 0)]) 32 rfl Tryd.underlying23 inf34 rfl (by decide) (by omega) (.slice A toks.length c) toks ⟨0, ⟨#[]⟩, (s.size : Int)⟩ [.int .i64 0, .string ⟨#[]⟩, .int .i64 s.size] (fun k => w.heap.size + 4 ≤ k) (fun _ => False) rfl rfl ?aP (fun _ hk => hk.elim) ?aF ?aO ?aB ?aS ?aL ?_; (case aP => exact k34_mkM _ _ _ ⟨0, ⟨#[]⟩, (s.size : Int)⟩); (case aB => exact Below.refl _ _); (case aF => intro k hk; omega); (case aO => exact H2.out.row); (case aS => omega); (case aL => omega); intro v3 w3 ho hb hg hat; obtain ⟨A3, c3, rfl, hc3, hr3⟩ := Kd.R_reads ho; clear hg hat hr3; have hs3 := hb.size; have e0 := (hb.cell (p := ⟨w.heap.size, 0, none⟩) (by simp)).trans d0; have e1 := (hb.cell (p := ⟨w.heap.size + 1, 0, none⟩) (by simp)).trans d1; have e2 := (hb.cell (p := ⟨w.heap.size + 1 + 1, 0, none⟩) (by simp)).trans d2; have i0 := (hb.frozen (p := ⟨w.heap.size, 0, none⟩) (by simp)).trans g0; have i1 := (hb.frozen (p := ⟨w.heap.size + 1, 0, none⟩) (by simp)).trans g1; have i2 := (hb.frozen (p := ⟨w.heap.size + 1 + 1, 0, none⟩) (by simp)).trans g2; have HB3 := hidF hb; clear hb)))
        refine leaves_cons (f := 19) (args := #[.pointer (some ⟨w.heap.size, 0, none⟩), .pointer (some ⟨w.heap.size + 1, 0, none⟩), .pointer (some ⟨w.heap.size + 1 + 1, 0, none⟩)]) (by simp) (by simp [go_sem]) ?_
        refine (scan1_ret _ _ _ _).mono ?_
        rintro e u' w9 ⟨rfl, rfl, hb9⟩
        obtain ⟨hc9, hf9⟩ := bcell hb9
        have m0 : w9.cell? ⟨w.heap.size, 0, none⟩ = some (.slice A3 (toks ++ [(⟨0, ⟨#[]⟩, (s.size : Int)⟩ : S34)]).length c3) := by rw [hc9 _ _ (by simp; omega)]; simp [go_sem, e0, e1, e2]
        have m1 : w9.cell? ⟨w.heap.size + 1, 0, none⟩ = some (.int .i64 0) := by rw [hc9 _ _ (by simp; omega)]; simp [go_sem, e0, e1, e2]
        have m2 : w9.cell? ⟨w.heap.size + 1 + 1, 0, none⟩ = some (.int .i64 0) := by rw [hc9 _ _ (by simp; omega)]; simp [go_sem, e0, e1, e2]
        exact ⟨.tuple #[.slice A3 (toks ++ [(⟨0, ⟨#[]⟩, (s.size : Int)⟩ : S34)]).length c3, .int .i64 0, .int .i64 0], by simp [results, Tryd.results10, go_sem, m0, m1, m2], outS_ok (scan_e HQ.out hsk HE.out) rfl (rowS ho hb9) (((H2.out.below.trans (HB3.out.mono (by omega))).setCell (by simp) _ |>.setCell (by simp) _ |>.setCell (by simp; omega) _).trans (hb9.mono (by simp; omega)))⟩
      · have hem : (dropB s q).toList.isEmpty = false := by
          rw [ByteArray.toList_eq, dropB_list]
          have : (s.data.toList.drop q).length ≠ 0 := by rw [List.length_drop, ← Lib.size_eq]; omega
          cases hd : s.data.toList.drop q with
          | nil => rw [hd] at this; simp at this
          | cons a b => rfl
        by_cases h1000 : toks.length < 1000
        · have hdec : decide ((toks.length : Int) < 1000) = true := decide_eq_true (by omega)
          have cT : ∀ W, Tab W → Sc W (w.heap.size + 1 + 1 + 1) s q → Calls Tryd.prog 23 #[.pointer (some ⟨w.heap.size + 1 + 1 + 1, 0, none⟩)] W (OutT q (tokL (s.data.toList.drop q)) W) := fun W hW hS => token_c _ s q W hW hs hS (by omega)
          rcases hr : tokL (s.data.toList.drop q) with _ | ⟨k, x, m⟩
          · rw [hr] at cT
            go_wp2_with (first | (go_at_call 21; (refine (rest_c (w.heap.size + 1 + 1 + 1) s q w1 H1.out.sc (by omega) (by omega)).mono ?_); rintro e w2 ⟨rfl, hb2⟩; have H2 := hidF (H1.out.bl hb2); have hl2 := H2.out.lt; have d0 := H2.out.c0; have d1 := H2.out.c1; have d2 := H2.out.c2; have g0 := H2.out.f0; have g1 := H2.out.f1; have g2 := H2.out.f2) | (go_at_call 22; (refine (must_t (w.heap.size + 1 + 1 + 1) w2).mono ?_); rintro e w3 ⟨rfl, hb3⟩; have H3 := hidF (H2.out.bl hb3)) | (go_at_call 23; (refine (cT w3 (hT.out.below H3.out.below) H3.out.sc).mono ?_); rintro e w4 ⟨rfl, hb4⟩; have H4 := hidF (H3.out.bl hb4)))
            have hl := H4.out.lt
            refine leaves_cons (f := 19) (args := #[.pointer (some ⟨w.heap.size, 0, none⟩), .pointer (some ⟨w.heap.size + 1, 0, none⟩), .pointer (some ⟨w.heap.size + 1 + 1, 0, none⟩)]) (by simp [fl]) (by simp [go_sem]) ?_
            refine (scan1_pan w.heap.size w.heap.size (w.heap.size + 1) (w.heap.size + 1 + 1) q _ (.slice A toks.length c) (.int .i64 0) (.int .i64 0) (Nat.le_refl _) (by omega) (by omega) (by omega) H4.out.c0 H4.out.c1 H4.out.c2 H4.out.f0 H4.out.f1 H4.out.f2).mono ?_
            rintro e u' w9 ⟨rfl, rfl, hb9, e0, e1, e2⟩
            exact ⟨.tuple #[.slice none 0 0, .int .i64 q, .int .i64 20], by simp [results, Tryd.results10, go_sem, e0, e1, e2], outS_err (scan_n hq hqe hsk hr HE.out) rfl (H4.out.below.trans hb9)⟩
          · rw [hr] at cT
            go_wp2_with (first | (go_at_call 21; (refine (rest_c (w.heap.size + 1 + 1 + 1) s q w1 H1.out.sc (by omega) (by omega)).mono ?_); rintro e w2 ⟨rfl, hb2⟩; have H2 := hidF (H1.out.bl hb2); have hl2 := H2.out.lt; have d0 := H2.out.c0; have d1 := H2.out.c1; have d2 := H2.out.c2; have g0 := H2.out.f0; have g1 := H2.out.f1; have g2 := H2.out.f2) | (go_at_call 22; (refine (must_t (w.heap.size + 1 + 1 + 1) w2).mono ?_); rintro e w3 ⟨rfl, hb3⟩; have H3 := hidF (H2.out.bl hb3)) | (go_at_call 23; (refine (cT w3 (hT.out.below H3.out.below) H3.out.sc).mono ?_); rintro e w4 ⟨rfl, hb4⟩; have H4 := hidF (H3.out.bl hb4)))
            obtain ⟨hm1, hm2⟩ := tok_le hr
            rw [List.length_drop, ← Lib.size_eq] at hm2
            have c40 := H4.out.c0
            have f40 := H4.out.f0
            obtain ⟨s40, s41, s4f⟩ := H4.out.sc
            have hl4 := H4.out.lt
            clear d0 d1 d2 g0 g1 g2
            have d40 : w4.drew.cell? ⟨w.heap.size, 0, none⟩ = some (.slice A toks.length c) := c40
            have df40 : w4.drew.frozen? ⟨w.heap.size, 0, none⟩ = false := f40
            have d41 : w4.drew.cell? ⟨w.heap.size + 1 + 1 + 1, 1, none⟩ = some (.int .i64 q) := s41
            have d400 : w4.drew.cell? ⟨w.heap.size + 1 + 1 + 1, 0, none⟩ = some (.string s) := s40
            have d4f : w4.drew.frozen? ⟨w.heap.size + 1 + 1 + 1, 1, none⟩ = false := s4f
            have HRd := hidF (Kd.R_drew H4.out.row)
            have HLd := hidF (H4.out.bl (Below.refl _ _).drew)
            have hsd : w4.heap.size = w4.drew.heap.size := rfl
            refine wp_region_noPanic ?_
            refine start_ (n := 11) (S := fun w' => w'.cell? ⟨w.heap.size, 0, none⟩ = some (.slice A toks.length c) ∧ w'.cell? ⟨w.heap.size + 1 + 1 + 1, 1, none⟩ = some (.int .i64 q)) (ds := [10]) #[false, false, false, false, false, false, false, false, false, false, false] (by kernel_rfl) rfl rfl ⟨c40, s41⟩ (fun hHeld => ?_)
            generalize w4.drew = wd at *
            refine pure_ (i := 1) (N := some 39) (v := ?_) (a' := ?_) #[false, true, false, false, false, false, false, false, false, false, false] rfl rfl (by kernel_rfl) (fun _ _ _ h => h) (Or.inl ⟨by rfl, ?_⟩) ?_ ?_
            rotate_left
            · intro w'
              go_simp
              with_reducible rfl
            rotate_left
            · simp only [Act.put, List.setIfInBounds_toArray, List.set_cons_zero, List.set_cons_succ, i64_w, i32_w]
              rfl
            refine pure_ (i := 2) (N := some 40) (v := ?_) (a' := ?_) #[false, true, true, false, false, false, false, false, false, false, false] rfl rfl (by kernel_rfl) (fun _ _ _ h => h) (Or.inl ⟨by rfl, ?_⟩) ?_ ?_
            rotate_left
            · intro w'
              go_simp
              with_reducible rfl
            rotate_left
            · simp only [Act.put, List.setIfInBounds_toArray, List.set_cons_zero, List.set_cons_succ, i64_w, i32_w]
              rfl
            refine pure_ (i := 3) (N := some 41) (v := ?_) (a' := ?_) #[false, true, true, true, false, false, false, false, false, false, false] rfl rfl (by kernel_rfl) (fun _ _ _ h => h) (Or.inl ⟨by rfl, ?_⟩) ?_ ?_
            rotate_left
            · intro w'
              go_simp
              with_reducible rfl
            rotate_left
            · simp only [Act.put, List.setIfInBounds_toArray, List.set_cons_zero, List.set_cons_succ, i64_w, i32_w]
              rfl
            refine pure_ (i := 4) (N := some 42) (v := ?_) (a' := ?_) #[false, true, true, true, true, false, false, false, false, false, false] rfl rfl (by kernel_rfl) (fun _ _ _ h => h) (Or.inl ⟨by rfl, ?_⟩) ?_ ?_
            rotate_left
            · intro w'
              go_simp
              with_reducible rfl
            rotate_left
            · simp only [Act.put, List.setIfInBounds_toArray, List.set_cons_zero, List.set_cons_succ, i64_w, i32_w]
              rfl
            refine pure_ (i := 5) (N := some 43) (v := ?_) (a' := ?_) #[false, true, true, true, true, true, false, false, false, false, false] rfl rfl (by kernel_rfl) (fun _ _ _ h => h) (Or.inl ⟨by rfl, ?_⟩) ?_ ?_
            rotate_left
            · intro w'
              go_simp
              with_reducible rfl
            rotate_left
            · simp only [Act.put, List.setIfInBounds_toArray, List.set_cons_zero, List.set_cons_succ, i64_w, i32_w]
              rfl
            refine take_ (i := 0) (N := some 38) (v := ?_) (a' := ?_) #[true, true, true, true, true, true, false, false, false, false, false] rfl rfl (by kernel_rfl) (fun _ _ _ h => h) (Or.inl ⟨by rfl, ?_⟩) hHeld ?_ ?_
            rotate_left
            · rintro w' ⟨s0, s1⟩
              go_simp
              with_reducible rfl
            rotate_left
            · simp only [Act.put, List.setIfInBounds_toArray, List.set_cons_zero, List.set_cons_succ, i64_w, i32_w]
              rfl
            refine take_ (i := 6) (N := some 44) (v := ?_) (a' := ?_) #[true, true, true, true, true, true, true, false, false, false, false] rfl rfl (by kernel_rfl) (fun _ _ _ h => h) (Or.inl ⟨by rfl, ?_⟩) hHeld ?_ ?_
            rotate_left
            · rintro w' ⟨s0, s1⟩
              go_simp
              with_reducible rfl
            rotate_left
            · simp only [Act.put, List.setIfInBounds_toArray, List.set_cons_zero, List.set_cons_succ, i64_w, i32_w]
              rfl
            refine pure_ (i := 7) (N := some 45) (v := ?_) (a' := ?_) #[true, true, true, true, true, true, true, true, false, false, false] rfl rfl (by kernel_rfl) (fun _ _ _ h => h) (Or.inl ⟨by rfl, ?_⟩) ?_ ?_
            rotate_left
            · intro w'
              go_simp
              with_reducible rfl
            rotate_left
            · simp only [Act.put, List.setIfInBounds_toArray, List.set_cons_zero, List.set_cons_succ, i64_w, i32_w]
              rfl
            refine one_ (i := 8) (N := some 46) #[true, true, true, true, true, true, true, true, true, false, false] rfl rfl (by kernel_rfl) (by decide) (fun K hK => ?_)
            refine value_ (w1 := ?_) (v := ?_) (by rfl) rfl ?_ ?_
            rotate_left 2
            · go_simp
              constructor
              · rfl
              · rfl
            refine hK.out _ _ ⟨((below_box _ _).cell (p := ⟨w.heap.size, 0, none⟩) (show w.heap.size < wd.heap.size by omega)).trans hHeld.1, ((below_box _ _).cell (p := ⟨w.heap.size + 1 + 1 + 1, 1, none⟩) (show w.heap.size + 1 + 1 + 1 < wd.heap.size by omega)).trans hHeld.2⟩ (fun hHeld => ?_)
            clear hK K
            refine norm_ (a' := ?_) ?_ ?_
            rotate_left
            · show Act.put _ (some 46) _ = _
              simp only [Act.put, List.setIfInBounds_toArray, List.set_cons_zero, List.set_cons_succ, i64_w, i32_w]
              rfl
            refine one_ (i := 9) (N := some 47) #[true, true, true, true, true, true, true, true, true, true, false] rfl rfl (by kernel_rfl) (by decide) (fun K hK => ?_)
            refine Kd.R_append_step k34 (w0 := wd) (w.heap.size + 4) (by rfl) (.tmp 38) (.tmp 46) 23 34 (.agg #[(.int .i64 0), (.string ⟨#[]⟩), (.int .i64 0)]) 32 (by rfl) Tryd.underlying23 inf34 rfl (by decide) (by omega) (.slice A toks.length c) toks ⟨k, ⟨x.toArray⟩, (q : Int)⟩ [.int .i64 k, .string ⟨x.toArray⟩, .int .i64 q] (fun k => w.heap.size + 4 ≤ k) (fun _ => False) (by rfl) (by rfl) ?aP (fun _ hk => hk.elim) ?aF ?aO ?aB ?aS ?aL ?_
            case aP => exact k34_mkM _ _ _ ⟨k, ⟨x.toArray⟩, (q : Int)⟩
            case aB => exact Below.refl _ _
            case aF => intro k hk; omega
            case aO => exact HRd.out
            case aS => omega
            case aL => omega
            intro v5 w5 ho hb hg hat
            obtain ⟨A5, c5, rfl, hc5, hr5⟩ := Kd.R_reads ho
            clear hg hat hr5
            have t50 := (hb.cell (p := ⟨w.heap.size, 0, none⟩) (by simp)).trans d40
            have t5f := (hb.frozen (p := ⟨w.heap.size, 0, none⟩) (by simp)).trans df40
            have t51 := (hb.cell (p := ⟨w.heap.size + 1 + 1 + 1, 1, none⟩) (by simp)).trans d41
            have t52 := (hb.cell (p := ⟨w.heap.size + 1 + 1 + 1, 0, none⟩) (by simp)).trans d400
            have t53 := (hb.frozen (p := ⟨w.heap.size + 1 + 1 + 1, 1, none⟩) (by simp)).trans d4f
            have HR5 := hidF ho
            have HB5 := hidF hb
            clear ho hb
            refine hK.out _ _ ⟨t50, t51⟩ (fun hHeld => ?_)
            clear hK K
            refine norm_ (a' := ?_) ?_ ?_
            rotate_left
            · show Act.put _ (some 47) _ = _
              simp only [Act.put, List.setIfInBounds_toArray, List.set_cons_zero, List.set_cons_succ, i64_w, i32_w]
              rfl
            refine last_ (i := 10) (N := none) #[true, true, true, true, true, true, true, true, true, true, true] rfl rfl (by kernel_rfl) (by decide) (fun K hK => ?_)
            refine skip_ (w1 := ?_) (by rfl) rfl ?_ ?_
            rotate_left
            · go_simp
              rfl
            refine hK.out _ _ ?_
            clear hK K
            refine done_ (by kernel_rfl) ?_
            refine NoPanic.normal ?_
            go_wp2_with fail
            have LN := lp_next (r := q + m) (n := (q : Int) + (m : Int)) HLd.out HB5.out HR5.out (by omega)
            have el : (toks ++ [(⟨k, ⟨x.toArray⟩, (q : Int)⟩ : S34)]).length = toks.length + 1 := by simp
            have LM := LN.len
            rw [el] at LN
            have LT := HH.out.len
            go_roundw
            case rel => exact ⟨q + m, toks ++ [⟨k, ⟨x.toArray⟩, (q : Int)⟩], _, by omega, by simp; omega, LN, scan_t hq hqe hsk hr h1000 HE.out⟩
            case measure =>
              obtain ⟨A1, c1, e1, e2⟩ := LT
              obtain ⟨A2, c2, e3, e4⟩ := LM
              rw [e2]
              have e5 : tokN ((w5.setCell ⟨w.heap.size, 0, none⟩ (.slice A5 (toks.length + 1) c5)).setCell ⟨w.heap.size + 1 + 1 + 1, 1, none⟩ (.int .i64 ((q : Int) + (m : Int)))) w.heap.size = toks.length + 1 := by
                have := e4
                simp only [List.length_append, List.length_cons, List.length_nil] at this
                exact this
              rw [e5]; omega
        · have hdec : decide ((toks.length : Int) < 1000) = false := decide_eq_false (by omega)
          go_wp2_with (first | (go_at_call 21; (refine (rest_c (w.heap.size + 1 + 1 + 1) s q w1 H1.out.sc (by omega) (by omega)).mono ?_); rintro e w2 ⟨rfl, hb2⟩; have H2 := hidF (H1.out.bl hb2); have hl2 := H2.out.lt; have d0 := H2.out.c0; have d1 := H2.out.c1; have d2 := H2.out.c2; have g0 := H2.out.f0; have g1 := H2.out.f1; have g2 := H2.out.f2) | (go_at_call 22; (refine (must_f (w.heap.size + 1 + 1 + 1) s q w2 H2.out.sc).mono ?_); rintro e w3 ⟨rfl, hb3⟩; have H3 := hidF (H2.out.bl hb3)))
          have hl := H3.out.lt
          refine leaves_cons (f := 19) (args := #[.pointer (some ⟨w.heap.size, 0, none⟩), .pointer (some ⟨w.heap.size + 1, 0, none⟩), .pointer (some ⟨w.heap.size + 1 + 1, 0, none⟩)]) (by simp [fl]) (by simp [go_sem]) ?_
          refine (scan1_pan w.heap.size w.heap.size (w.heap.size + 1) (w.heap.size + 1 + 1) q _ (.slice A toks.length c) (.int .i64 0) (.int .i64 0) (Nat.le_refl _) (by omega) (by omega) (by omega) H3.out.c0 H3.out.c1 H3.out.c2 H3.out.f0 H3.out.f1 H3.out.f2).mono ?_
          rintro e u' w9 ⟨rfl, rfl, hb9, e0, e1, e2⟩
          exact ⟨.tuple #[.slice none 0 0, .int .i64 q, .int .i64 20], by simp [results, Tryd.results10, go_sem, e0, e1, e2], outS_err (scan_o hq hqe hsk h1000 HE.out) rfl (H3.out.below.trans hb9)⟩
end Go.Proofs.YtlaafpbhhnehgaaDoor
end
section
namespace Go.Proofs.YtlaafpbhhnehgaaDoor
set_option linter.unusedVariables false
set_option linter.unusedSimpArgs false
open Go.RowKit Go.Lib
theorem idx_neg (p : Nat → Bool) (s : ByteArray) (hp : ∀ r, 128 ≤ r → p r = true) : ∀ f pos, s.size ≤ pos + f →
    (decide (idxFuncFrom p true s f pos < 0) = (s.data.toList.drop pos).all (fun b => decide (b.toNat < 128) && !p b.toNat)) := by
  intro f
  induction f with
  | zero =>
    intro pos h
    rw [List.drop_of_length_le (by rw [← Lib.size_eq]; omega)]; rfl
  | succ f ih =>
    intro pos h
    by_cases hps : pos < s.size
    · rw [get_lt hps, List.all_cons]
      unfold idxFuncFrom
      rw [if_pos hps]
      by_cases hb : (s[pos]'hps).toNat < 128
      · rw [decode_ascii s pos hps hb]
        simp only [hb, decide_true, Bool.true_and]
        cases hpb : p (s[pos]'hps).toNat
        · simp only [Bool.false_eq_true, if_false, Bool.not_false, Bool.true_and]
          exact ih (pos + 1) (by omega)
        · simp only [if_true, Bool.not_true, Bool.false_and]
          exact decide_eq_false (by omega)
      · have hh := decode_high s pos hps (by omega)
        rw [hp _ hh.1]
        simp only [if_true, hb, decide_false, Bool.false_and]
        exact decide_eq_false (by omega)
    · rw [idxFuncFrom_end p true s (f + 1) pos hps, List.drop_of_length_le (by rw [← Lib.size_eq]; omega)]; rfl
theorem idx_asc (p : Nat → Bool) (s : ByteArray) : ∀ f pos, s.size ≤ pos + f → (∀ b ∈ s.data.toList.drop pos, b.toNat < 128) →
    (decide (0 ≤ idxFuncFrom p true s f pos) = (s.data.toList.drop pos).any (fun b => p b.toNat)) := by
  intro f
  induction f with
  | zero =>
    intro pos h _
    rw [List.drop_of_length_le (by rw [← Lib.size_eq]; omega)]; rfl
  | succ f ih =>
    intro pos h ha
    by_cases hps : pos < s.size
    · rw [get_lt hps] at ha ⊢
      rw [List.any_cons]
      unfold idxFuncFrom
      rw [if_pos hps]
      have hb := ha _ (List.mem_cons_self ..)
      rw [decode_ascii s pos hps hb]
      cases hpb : p (s[pos]'hps).toNat
      · simp only [Bool.false_eq_true, if_false, Bool.false_or]
        exact ih (pos + 1) (by omega) (fun b hb => ha b (List.mem_cons_of_mem _ hb))
      · simp only [if_true, Bool.true_or]
        exact decide_eq_true (by omega)
    · rw [idxFuncFrom_end p true s (f + 1) pos hps, List.drop_of_length_le (by rw [← Lib.size_eq]; omega)]; rfl
/-- a letter that names may have -/
def okB (b : UInt8) : Bool := decide (32 ≤ b.toNat) && decide (b.toNat ≤ 126)
/-- whether a text is a name -/
def nameP (l : List UInt8) : Bool := decide (1 ≤ l.length) && decide (l.length ≤ 32) && (l.head? != some 64) && l.all okB
/-- a letter that a bare name may have -/
def bareB (b : UInt8) : Bool := isInn b.toNat && !(decide (65 ≤ b.toNat) && decide (b.toNat ≤ 90))
/-- whether a name is written bare -/
def bareP (l : List UInt8) : Bool := (match l with | [] => false | c :: _ => !isDig c.toNat) && l.all bareB && !isWd (toUpperA l)
/-- how a name is written -/
def nameW (l : List UInt8) : List UInt8 × Int := if nameP l then (if bareP l then l else quoteL 34 l, 0) else ([], 23)
theorem odd1_ok (b : UInt8) : (decide (b.toNat < 128) && !odd1 b.toNat) = okB b := by
  have := b.toNat_lt
  unfold odd1 okB
  rw [Bool.eq_iff_iff]
  simp only [Bool.and_eq_true, decide_eq_true_eq, Bool.not_eq_true', Bool.or_eq_false_iff, decide_eq_false_iff_not]
  omega
theorem nameL_eq (l : List UInt8) : nameL l = nameP l := by
  have hd : (⟨l.toArray⟩ : ByteArray).data.toList = l := rfl
  have hs : (⟨l.toArray⟩ : ByteArray).size = l.length := by rw [Lib.size_eq]
  have hi : decide (idxFunc odd1 true ⟨l.toArray⟩ < 0) = l.all okB := by
    unfold idxFunc
    rw [idx_neg odd1 ⟨l.toArray⟩ (fun r hr => by unfold odd1; simp; omega) _ 0 (by omega), hd, List.drop_zero]
    congr 1; funext b; exact odd1_ok b
  unfold nameL nameB nameP
  match l with
  | [] => rfl
  | c :: t =>
    have h0 : 0 < (⟨(c :: t).toArray⟩ : ByteArray).size := by rw [hs]; simp
    rw [dif_pos h0, hi, hs]
    have hg : (⟨(c :: t).toArray⟩ : ByteArray)[0]'h0 = c := rfl
    rw [hg]
    have h64 : (((c.toNat : Int)) != 64) = (c != 64) := by
      rw [Bool.eq_iff_iff]
      simp only [bne_iff_ne, ne_eq, ← UInt8.toNat_inj]
      show ¬ ((c.toNat : Int) = 64) ↔ ¬ c.toNat = 64
      omega
    rw [h64]
    have hh : ((c :: t).head? != some 64) = (c != 64) := by
      rw [Bool.eq_iff_iff]; simp
    rw [hh]
    have h1 : decide (1 ≤ (c :: t).length) = true := by simp
    have h2 : decide (((c :: t).length : Int) ≤ 32) = decide ((c :: t).length ≤ 32) := by
      rw [Bool.eq_iff_iff]; simp only [decide_eq_true_eq]; omega
    rw [h1, h2, Bool.true_and, Bool.and_comm (c != 64)]
theorem nameP_ascii {l : List UInt8} (h : nameP l = true) : ∀ b ∈ l, b.toNat < 128 := by
  intro b hb
  simp only [nameP, Bool.and_eq_true] at h
  have := List.all_eq_true.1 h.2 b hb
  simp only [okB, Bool.and_eq_true, decide_eq_true_eq] at this
  omega
theorem odd2_bare (b : UInt8) (h : b.toNat < 128) : odd2 b.toNat = !bareB b := by
  unfold odd2 bareB
  have e : ((b.toNat : Int)) % 256 = (b.toNat : Int) := by omega
  rw [e, Bool.not_and, Bool.not_not]
  congr 1
  rw [Bool.eq_iff_iff]; simp only [Bool.and_eq_true, decide_eq_true_eq]; omega
theorem odd2_idx (l : List UInt8) (h : nameP l = true) : decide (0 ≤ idxFunc odd2 true ⟨l.toArray⟩) = !l.all bareB := by
  have ha := nameP_ascii h
  unfold idxFunc
  rw [idx_asc odd2 ⟨l.toArray⟩ _ 0 (by omega) (by simpa using ha)]
  show l.any _ = _
  induction l with
  | nil => rfl
  | cons c t ih =>
    rw [List.any_cons, List.all_cons, Bool.not_and, odd2_bare c (ha c (List.mem_cons_self ..))]
    have ha' : ∀ b ∈ t, b.toNat < 128 := fun b hb => ha b (List.mem_cons_of_mem _ hb)
    congr 1
    clear ih h ha
    induction t with
    | nil => rfl
    | cons d t ih => rw [List.any_cons, List.all_cons, Bool.not_and, odd2_bare d (ha' d (List.mem_cons_self ..)), ih (fun b hb => ha' b (List.mem_cons_of_mem _ hb))]
end Go.Proofs.YtlaafpbhhnehgaaDoor
end
section
namespace Go.Proofs.YtlaafpbhhnehgaaDoor
set_option linter.unusedVariables false
set_option linter.unusedSimpArgs false
open Go.RowKit
theorem enter_name1 : ∀ args w, (callFunc 27 args).run Tryd.prog w = .ok (.enter 27 args) w := by
  intro args w
  simp [go_sem, Tryd.func27]
theorem oddG (w : World) : PredGrows Tryd.prog 27 #[] odd2 w := fun W x hx _ => odd_c x W hx
theorem idxO_c (l : List UInt8) (i : Int) (hi : Lib.idxFunc odd2 true ⟨l.toArray⟩ = i) (w : World) :
    Calls Tryd.prog 30 #[.string ⟨l.toArray⟩, .func (.func 27) #[] #[]] w fun e w' => e = .returned (.int .i64 i) ∧ Below w.heap.size w w' := by
  subst hi; exact Tryd.strings_IndexFunc_grows 27 #[] enter_name1 odd2 ⟨l.toArray⟩ w (oddG w)
theorem quoteL_c (l : List UInt8) (w : World) (ht : Tab w) (hs : l.length ≤ 65536) :
    Calls Tryd.prog 32 #[.string ⟨l.toArray⟩, .int .u8 34] w fun e w' => e = .returned (.string ⟨(quoteL 34 l).toArray⟩) ∧ Below w.heap.size w w' :=
  quoted_34 ⟨l.toArray⟩ w ht (by rw [Lib.size_eq]; simpa using (by omega : l.length < 4294967281))
set_option maxRecDepth 100000 in
set_option maxHeartbeats 4000000 in
theorem nameL_c (l : List UInt8) (w : World) (ht : Tab w) :
    Calls Tryd.prog 13 #[.string ⟨l.toArray⟩] w fun e w' => e = .returned (.tuple #[.string ⟨(nameW l).1.toArray⟩, .int .i64 (nameW l).2]) ∧ Below w.heap.size w w' := by
  have hT := hidF ht
  clear ht
  have hne := nameL_eq l
  cases hn : nameP l
  · rw [hn] at hne
    have hw : nameW l = ([], 23) := by unfold nameW; rw [hn]; rfl
    rw [hw]
    go_enter Tryd.func13, Tryd.ntmps13
    go_wp2_with (first | (go_at_call 26; (fail_if_success (have := w1)); ((with_reducible refine (isNameL_c l _ hne _).mono ?_); rintro e w1 ⟨rfl, hb1⟩; (try (replace hb1 := below_undrew hb1)); (try (replace hb1 := below_undrewN hb1)); obtain ⟨hc1, hf1⟩ := bcell hb1; )) | (go_at_call 26; (fail_if_success (have := w2)); ((with_reducible refine (isNameL_c l _ hne _).mono ?_); rintro e w2 ⟨rfl, hb2⟩; (try (replace hb2 := below_undrew hb2)); (try (replace hb2 := below_undrewN hb2)); obtain ⟨hc2, hf2⟩ := bcell hb2; (try (have hz_1_2 : w1.heap.size < w2.heap.size := (by have := hb2.size; (try simp at this); omega))))))
    (exact bodyPost_ret (v := .tuple #[.string ⟨#[]⟩, .int .i64 23]) (by simp [results, Tryd.results13, go_sem, *]) rfl ⟨rfl, (by repeat (first | (with_reducible exact Below.refl _ _) | (with_reducible refine below_al ?_ _) | (with_reducible refine below_drewN ?_ _) | (with_reducible refine Below.drew ?_) | (with_reducible refine below_via (by assumption) ?_) | (with_reducible refine below_sc ?_ ?_ _; · (first | (simp; done) | (simp; omega) | omega))))⟩)
  · rw [hn] at hne
    have hA := hidF (nameP_ascii hn)
    have hl : l.length ≤ 32 ∧ 1 ≤ l.length := by
      simp only [nameP, Bool.and_eq_true, decide_eq_true_eq] at hn
      exact ⟨hn.1.1.2, hn.1.1.1⟩
    have hi := odd2_idx l hn
    match l, hl with
    | c :: t, hl =>
    have hsz : (⟨(c :: t).toArray⟩ : ByteArray).size = t.length + 1 := by rw [Lib.size_eq]; rfl
    have hg : ∀ h : 0 < (⟨(c :: t).toArray⟩ : ByteArray).size, (⟨(c :: t).toArray⟩ : ByteArray)[0]'h = c := fun _ => rfl
    have hasc : Hid (∀ (j : Nat) (b : UInt8), (c :: t)[j]? = some b → b.toNat < 128) := hidF (fun j b hb => hA.out b (List.mem_of_getElem? hb))
    obtain ⟨ix, hix⟩ : ∃ i, Lib.idxFunc odd2 true ⟨(c :: t).toArray⟩ = i := ⟨_, rfl⟩
    rw [hix] at hi
    have hX := hidF hix
    have hN := hidF hn
    have hw : nameW (c :: t) = (if bareP (c :: t) then c :: t else quoteL 34 (c :: t), 0) := by unfold nameW; rw [hn]; rfl
    have hb : bareP (c :: t) = (!isDig c.toNat && (c :: t).all bareB && !isWd (Lib.toUpperA (c :: t))) := rfl
    rw [hw, hb]
    clear hw hb hix hn
    have hlen : (c :: t).length ≤ 140737488355328 := by omega
    have hlen2 : (c :: t).length ≤ 65536 := by omega
    cases h1 : isDig c.toNat
    case' false => cases h2 : (c :: t).all bareB
    case' false.true => cases h3 : isWd (Lib.toUpperA (c :: t))
    all_goals (try rw [h2] at hi)
    all_goals
      go_enter Tryd.func13, Tryd.ntmps13
      go_wp2_with (first | (go_at_call 26; (fail_if_success (have := w1)); ((with_reducible refine (isNameL_c (c :: t) _ hne _).mono ?_); rintro e w1 ⟨rfl, hb1⟩; (try (replace hb1 := below_undrew hb1)); (try (replace hb1 := below_undrewN hb1)); obtain ⟨hc1, hf1⟩ := bcell hb1; )) | (go_at_call 29; (fail_if_success (have := w1)); ((with_reducible refine (isDigit_c _ _).mono ?_); rintro e w1 ⟨rfl, hb1⟩; (try (replace hb1 := below_undrew hb1)); (try (replace hb1 := below_undrewN hb1)); obtain ⟨hc1, hf1⟩ := bcell hb1; )) | (go_at_call 30; (fail_if_success (have := w1)); ((with_reducible refine (idxO_c (c :: t) ix hX.out _).mono ?_); rintro e w1 ⟨rfl, hb1⟩; (try (replace hb1 := below_undrew hb1)); (try (replace hb1 := below_undrewN hb1)); obtain ⟨hc1, hf1⟩ := bcell hb1; )) | (go_at_call 31; (fail_if_success (have := w1)); ((with_reducible refine (upper_c (c :: t) _ hlen hasc.out).mono ?_); rintro e w1 ⟨rfl, hb1⟩; (try (replace hb1 := below_undrew hb1)); (try (replace hb1 := below_undrewN hb1)); obtain ⟨hc1, hf1⟩ := bcell hb1; )) | (go_at_call 15; (fail_if_success (have := w1)); ((with_reducible refine (isWd_c (Lib.toUpperA (c :: t)) _ h3 _ (hT.out.below (by repeat (first | (with_reducible exact Below.refl _ _) | (with_reducible refine below_al ?_ _) | (with_reducible refine below_drewN ?_ _) | (with_reducible refine Below.drew ?_) | (with_reducible refine below_via (by assumption) ?_) | (with_reducible refine below_sc ?_ ?_ _; · (first | (simp; done) | (simp; omega) | omega)))))).mono ?_); rintro e w1 ⟨rfl, hb1⟩; (try (replace hb1 := below_undrew hb1)); (try (replace hb1 := below_undrewN hb1)); obtain ⟨hc1, hf1⟩ := bcell hb1; )) | (go_at_call 32; (fail_if_success (have := w1)); ((with_reducible refine (quoteL_c (c :: t) _ (hT.out.below (by repeat (first | (with_reducible exact Below.refl _ _) | (with_reducible refine below_al ?_ _) | (with_reducible refine below_drewN ?_ _) | (with_reducible refine Below.drew ?_) | (with_reducible refine below_via (by assumption) ?_) | (with_reducible refine below_sc ?_ ?_ _; · (first | (simp; done) | (simp; omega) | omega))))) hlen2).mono ?_); rintro e w1 ⟨rfl, hb1⟩; (try (replace hb1 := below_undrew hb1)); (try (replace hb1 := below_undrewN hb1)); obtain ⟨hc1, hf1⟩ := bcell hb1; )) | (go_at_call 26; (fail_if_success (have := w2)); ((with_reducible refine (isNameL_c (c :: t) _ hne _).mono ?_); rintro e w2 ⟨rfl, hb2⟩; (try (replace hb2 := below_undrew hb2)); (try (replace hb2 := below_undrewN hb2)); obtain ⟨hc2, hf2⟩ := bcell hb2; (try (have hz_1_2 : w1.heap.size < w2.heap.size := (by have := hb2.size; (try simp at this); omega))))) | (go_at_call 29; (fail_if_success (have := w2)); ((with_reducible refine (isDigit_c _ _).mono ?_); rintro e w2 ⟨rfl, hb2⟩; (try (replace hb2 := below_undrew hb2)); (try (replace hb2 := below_undrewN hb2)); obtain ⟨hc2, hf2⟩ := bcell hb2; (try (have hz_1_2 : w1.heap.size < w2.heap.size := (by have := hb2.size; (try simp at this); omega))))) | (go_at_call 30; (fail_if_success (have := w2)); ((with_reducible refine (idxO_c (c :: t) ix hX.out _).mono ?_); rintro e w2 ⟨rfl, hb2⟩; (try (replace hb2 := below_undrew hb2)); (try (replace hb2 := below_undrewN hb2)); obtain ⟨hc2, hf2⟩ := bcell hb2; (try (have hz_1_2 : w1.heap.size < w2.heap.size := (by have := hb2.size; (try simp at this); omega))))) | (go_at_call 31; (fail_if_success (have := w2)); ((with_reducible refine (upper_c (c :: t) _ hlen hasc.out).mono ?_); rintro e w2 ⟨rfl, hb2⟩; (try (replace hb2 := below_undrew hb2)); (try (replace hb2 := below_undrewN hb2)); obtain ⟨hc2, hf2⟩ := bcell hb2; (try (have hz_1_2 : w1.heap.size < w2.heap.size := (by have := hb2.size; (try simp at this); omega))))) | (go_at_call 15; (fail_if_success (have := w2)); ((with_reducible refine (isWd_c (Lib.toUpperA (c :: t)) _ h3 _ (hT.out.below (by repeat (first | (with_reducible exact Below.refl _ _) | (with_reducible refine below_al ?_ _) | (with_reducible refine below_drewN ?_ _) | (with_reducible refine Below.drew ?_) | (with_reducible refine below_via (by assumption) ?_) | (with_reducible refine below_sc ?_ ?_ _; · (first | (simp; done) | (simp; omega) | omega)))))).mono ?_); rintro e w2 ⟨rfl, hb2⟩; (try (replace hb2 := below_undrew hb2)); (try (replace hb2 := below_undrewN hb2)); obtain ⟨hc2, hf2⟩ := bcell hb2; (try (have hz_1_2 : w1.heap.size < w2.heap.size := (by have := hb2.size; (try simp at this); omega))))) | (go_at_call 32; (fail_if_success (have := w2)); ((with_reducible refine (quoteL_c (c :: t) _ (hT.out.below (by repeat (first | (with_reducible exact Below.refl _ _) | (with_reducible refine below_al ?_ _) | (with_reducible refine below_drewN ?_ _) | (with_reducible refine Below.drew ?_) | (with_reducible refine below_via (by assumption) ?_) | (with_reducible refine below_sc ?_ ?_ _; · (first | (simp; done) | (simp; omega) | omega))))) hlen2).mono ?_); rintro e w2 ⟨rfl, hb2⟩; (try (replace hb2 := below_undrew hb2)); (try (replace hb2 := below_undrewN hb2)); obtain ⟨hc2, hf2⟩ := bcell hb2; (try (have hz_1_2 : w1.heap.size < w2.heap.size := (by have := hb2.size; (try simp at this); omega))))) | (go_at_call 26; (fail_if_success (have := w3)); ((with_reducible refine (isNameL_c (c :: t) _ hne _).mono ?_); rintro e w3 ⟨rfl, hb3⟩; (try (replace hb3 := below_undrew hb3)); (try (replace hb3 := below_undrewN hb3)); obtain ⟨hc3, hf3⟩ := bcell hb3; (try (have hz_1_3 : w1.heap.size < w3.heap.size := (by have := hb3.size; (try simp at this); omega))); (try (have hz_2_3 : w2.heap.size < w3.heap.size := (by have := hb3.size; (try simp at this); omega))))) | (go_at_call 29; (fail_if_success (have := w3)); ((with_reducible refine (isDigit_c _ _).mono ?_); rintro e w3 ⟨rfl, hb3⟩; (try (replace hb3 := below_undrew hb3)); (try (replace hb3 := below_undrewN hb3)); obtain ⟨hc3, hf3⟩ := bcell hb3; (try (have hz_1_3 : w1.heap.size < w3.heap.size := (by have := hb3.size; (try simp at this); omega))); (try (have hz_2_3 : w2.heap.size < w3.heap.size := (by have := hb3.size; (try simp at this); omega))))) | (go_at_call 30; (fail_if_success (have := w3)); ((with_reducible refine (idxO_c (c :: t) ix hX.out _).mono ?_); rintro e w3 ⟨rfl, hb3⟩; (try (replace hb3 := below_undrew hb3)); (try (replace hb3 := below_undrewN hb3)); obtain ⟨hc3, hf3⟩ := bcell hb3; (try (have hz_1_3 : w1.heap.size < w3.heap.size := (by have := hb3.size; (try simp at this); omega))); (try (have hz_2_3 : w2.heap.size < w3.heap.size := (by have := hb3.size; (try simp at this); omega))))) | (go_at_call 31; (fail_if_success (have := w3)); ((with_reducible refine (upper_c (c :: t) _ hlen hasc.out).mono ?_); rintro e w3 ⟨rfl, hb3⟩; (try (replace hb3 := below_undrew hb3)); (try (replace hb3 := below_undrewN hb3)); obtain ⟨hc3, hf3⟩ := bcell hb3; (try (have hz_1_3 : w1.heap.size < w3.heap.size := (by have := hb3.size; (try simp at this); omega))); (try (have hz_2_3 : w2.heap.size < w3.heap.size := (by have := hb3.size; (try simp at this); omega))))) | (go_at_call 15; (fail_if_success (have := w3)); ((with_reducible refine (isWd_c (Lib.toUpperA (c :: t)) _ h3 _ (hT.out.below (by repeat (first | (with_reducible exact Below.refl _ _) | (with_reducible refine below_al ?_ _) | (with_reducible refine below_drewN ?_ _) | (with_reducible refine Below.drew ?_) | (with_reducible refine below_via (by assumption) ?_) | (with_reducible refine below_sc ?_ ?_ _; · (first | (simp; done) | (simp; omega) | omega)))))).mono ?_); rintro e w3 ⟨rfl, hb3⟩; (try (replace hb3 := below_undrew hb3)); (try (replace hb3 := below_undrewN hb3)); obtain ⟨hc3, hf3⟩ := bcell hb3; (try (have hz_1_3 : w1.heap.size < w3.heap.size := (by have := hb3.size; (try simp at this); omega))); (try (have hz_2_3 : w2.heap.size < w3.heap.size := (by have := hb3.size; (try simp at this); omega))))) | (go_at_call 32; (fail_if_success (have := w3)); ((with_reducible refine (quoteL_c (c :: t) _ (hT.out.below (by repeat (first | (with_reducible exact Below.refl _ _) | (with_reducible refine below_al ?_ _) | (with_reducible refine below_drewN ?_ _) | (with_reducible refine Below.drew ?_) | (with_reducible refine below_via (by assumption) ?_) | (with_reducible refine below_sc ?_ ?_ _; · (first | (simp; done) | (simp; omega) | omega))))) hlen2).mono ?_); rintro e w3 ⟨rfl, hb3⟩; (try (replace hb3 := below_undrew hb3)); (try (replace hb3 := below_undrewN hb3)); obtain ⟨hc3, hf3⟩ := bcell hb3; (try (have hz_1_3 : w1.heap.size < w3.heap.size := (by have := hb3.size; (try simp at this); omega))); (try (have hz_2_3 : w2.heap.size < w3.heap.size := (by have := hb3.size; (try simp at this); omega))))) | (go_at_call 26; (fail_if_success (have := w4)); ((with_reducible refine (isNameL_c (c :: t) _ hne _).mono ?_); rintro e w4 ⟨rfl, hb4⟩; (try (replace hb4 := below_undrew hb4)); (try (replace hb4 := below_undrewN hb4)); obtain ⟨hc4, hf4⟩ := bcell hb4; (try (have hz_1_4 : w1.heap.size < w4.heap.size := (by have := hb4.size; (try simp at this); omega))); (try (have hz_2_4 : w2.heap.size < w4.heap.size := (by have := hb4.size; (try simp at this); omega))); (try (have hz_3_4 : w3.heap.size < w4.heap.size := (by have := hb4.size; (try simp at this); omega))))) | (go_at_call 29; (fail_if_success (have := w4)); ((with_reducible refine (isDigit_c _ _).mono ?_); rintro e w4 ⟨rfl, hb4⟩; (try (replace hb4 := below_undrew hb4)); (try (replace hb4 := below_undrewN hb4)); obtain ⟨hc4, hf4⟩ := bcell hb4; (try (have hz_1_4 : w1.heap.size < w4.heap.size := (by have := hb4.size; (try simp at this); omega))); (try (have hz_2_4 : w2.heap.size < w4.heap.size := (by have := hb4.size; (try simp at this); omega))); (try (have hz_3_4 : w3.heap.size < w4.heap.size := (by have := hb4.size; (try simp at this); omega))))) | (go_at_call 30; (fail_if_success (have := w4)); ((with_reducible refine (idxO_c (c :: t) ix hX.out _).mono ?_); rintro e w4 ⟨rfl, hb4⟩; (try (replace hb4 := below_undrew hb4)); (try (replace hb4 := below_undrewN hb4)); obtain ⟨hc4, hf4⟩ := bcell hb4; (try (have hz_1_4 : w1.heap.size < w4.heap.size := (by have := hb4.size; (try simp at this); omega))); (try (have hz_2_4 : w2.heap.size < w4.heap.size := (by have := hb4.size; (try simp at this); omega))); (try (have hz_3_4 : w3.heap.size < w4.heap.size := (by have := hb4.size; (try simp at this); omega))))) | (go_at_call 31; (fail_if_success (have := w4)); ((with_reducible refine (upper_c (c :: t) _ hlen hasc.out).mono ?_); rintro e w4 ⟨rfl, hb4⟩; (try (replace hb4 := below_undrew hb4)); (try (replace hb4 := below_undrewN hb4)); obtain ⟨hc4, hf4⟩ := bcell hb4; (try (have hz_1_4 : w1.heap.size < w4.heap.size := (by have := hb4.size; (try simp at this); omega))); (try (have hz_2_4 : w2.heap.size < w4.heap.size := (by have := hb4.size; (try simp at this); omega))); (try (have hz_3_4 : w3.heap.size < w4.heap.size := (by have := hb4.size; (try simp at this); omega))))) | (go_at_call 15; (fail_if_success (have := w4)); ((with_reducible refine (isWd_c (Lib.toUpperA (c :: t)) _ h3 _ (hT.out.below (by repeat (first | (with_reducible exact Below.refl _ _) | (with_reducible refine below_al ?_ _) | (with_reducible refine below_drewN ?_ _) | (with_reducible refine Below.drew ?_) | (with_reducible refine below_via (by assumption) ?_) | (with_reducible refine below_sc ?_ ?_ _; · (first | (simp; done) | (simp; omega) | omega)))))).mono ?_); rintro e w4 ⟨rfl, hb4⟩; (try (replace hb4 := below_undrew hb4)); (try (replace hb4 := below_undrewN hb4)); obtain ⟨hc4, hf4⟩ := bcell hb4; (try (have hz_1_4 : w1.heap.size < w4.heap.size := (by have := hb4.size; (try simp at this); omega))); (try (have hz_2_4 : w2.heap.size < w4.heap.size := (by have := hb4.size; (try simp at this); omega))); (try (have hz_3_4 : w3.heap.size < w4.heap.size := (by have := hb4.size; (try simp at this); omega))))) | (go_at_call 32; (fail_if_success (have := w4)); ((with_reducible refine (quoteL_c (c :: t) _ (hT.out.below (by repeat (first | (with_reducible exact Below.refl _ _) | (with_reducible refine below_al ?_ _) | (with_reducible refine below_drewN ?_ _) | (with_reducible refine Below.drew ?_) | (with_reducible refine below_via (by assumption) ?_) | (with_reducible refine below_sc ?_ ?_ _; · (first | (simp; done) | (simp; omega) | omega))))) hlen2).mono ?_); rintro e w4 ⟨rfl, hb4⟩; (try (replace hb4 := below_undrew hb4)); (try (replace hb4 := below_undrewN hb4)); obtain ⟨hc4, hf4⟩ := bcell hb4; (try (have hz_1_4 : w1.heap.size < w4.heap.size := (by have := hb4.size; (try simp at this); omega))); (try (have hz_2_4 : w2.heap.size < w4.heap.size := (by have := hb4.size; (try simp at this); omega))); (try (have hz_3_4 : w3.heap.size < w4.heap.size := (by have := hb4.size; (try simp at this); omega))))) | (go_at_call 26; (fail_if_success (have := w5)); ((with_reducible refine (isNameL_c (c :: t) _ hne _).mono ?_); rintro e w5 ⟨rfl, hb5⟩; (try (replace hb5 := below_undrew hb5)); (try (replace hb5 := below_undrewN hb5)); obtain ⟨hc5, hf5⟩ := bcell hb5; (try (have hz_1_5 : w1.heap.size < w5.heap.size := (by have := hb5.size; (try simp at this); omega))); (try (have hz_2_5 : w2.heap.size < w5.heap.size := (by have := hb5.size; (try simp at this); omega))); (try (have hz_3_5 : w3.heap.size < w5.heap.size := (by have := hb5.size; (try simp at this); omega))); (try (have hz_4_5 : w4.heap.size < w5.heap.size := (by have := hb5.size; (try simp at this); omega))))) | (go_at_call 29; (fail_if_success (have := w5)); ((with_reducible refine (isDigit_c _ _).mono ?_); rintro e w5 ⟨rfl, hb5⟩; (try (replace hb5 := below_undrew hb5)); (try (replace hb5 := below_undrewN hb5)); obtain ⟨hc5, hf5⟩ := bcell hb5; (try (have hz_1_5 : w1.heap.size < w5.heap.size := (by have := hb5.size; (try simp at this); omega))); (try (have hz_2_5 : w2.heap.size < w5.heap.size := (by have := hb5.size; (try simp at this); omega))); (try (have hz_3_5 : w3.heap.size < w5.heap.size := (by have := hb5.size; (try simp at this); omega))); (try (have hz_4_5 : w4.heap.size < w5.heap.size := (by have := hb5.size; (try simp at this); omega))))) | (go_at_call 30; (fail_if_success (have := w5)); ((with_reducible refine (idxO_c (c :: t) ix hX.out _).mono ?_); rintro e w5 ⟨rfl, hb5⟩; (try (replace hb5 := below_undrew hb5)); (try (replace hb5 := below_undrewN hb5)); obtain ⟨hc5, hf5⟩ := bcell hb5; (try (have hz_1_5 : w1.heap.size < w5.heap.size := (by have := hb5.size; (try simp at this); omega))); (try (have hz_2_5 : w2.heap.size < w5.heap.size := (by have := hb5.size; (try simp at this); omega))); (try (have hz_3_5 : w3.heap.size < w5.heap.size := (by have := hb5.size; (try simp at this); omega))); (try (have hz_4_5 : w4.heap.size < w5.heap.size := (by have := hb5.size; (try simp at this); omega))))) | (go_at_call 31; (fail_if_success (have := w5)); ((with_reducible refine (upper_c (c :: t) _ hlen hasc.out).mono ?_); rintro e w5 ⟨rfl, hb5⟩; (try (replace hb5 := below_undrew hb5)); (try (replace hb5 := below_undrewN hb5)); obtain ⟨hc5, hf5⟩ := bcell hb5; (try (have hz_1_5 : w1.heap.size < w5.heap.size := (by have := hb5.size; (try simp at this); omega))); (try (have hz_2_5 : w2.heap.size < w5.heap.size := (by have := hb5.size; (try simp at this); omega))); (try (have hz_3_5 : w3.heap.size < w5.heap.size := (by have := hb5.size; (try simp at this); omega))); (try (have hz_4_5 : w4.heap.size < w5.heap.size := (by have := hb5.size; (try simp at this); omega))))) | (go_at_call 15; (fail_if_success (have := w5)); ((with_reducible refine (isWd_c (Lib.toUpperA (c :: t)) _ h3 _ (hT.out.below (by repeat (first | (with_reducible exact Below.refl _ _) | (with_reducible refine below_al ?_ _) | (with_reducible refine below_drewN ?_ _) | (with_reducible refine Below.drew ?_) | (with_reducible refine below_via (by assumption) ?_) | (with_reducible refine below_sc ?_ ?_ _; · (first | (simp; done) | (simp; omega) | omega)))))).mono ?_); rintro e w5 ⟨rfl, hb5⟩; (try (replace hb5 := below_undrew hb5)); (try (replace hb5 := below_undrewN hb5)); obtain ⟨hc5, hf5⟩ := bcell hb5; (try (have hz_1_5 : w1.heap.size < w5.heap.size := (by have := hb5.size; (try simp at this); omega))); (try (have hz_2_5 : w2.heap.size < w5.heap.size := (by have := hb5.size; (try simp at this); omega))); (try (have hz_3_5 : w3.heap.size < w5.heap.size := (by have := hb5.size; (try simp at this); omega))); (try (have hz_4_5 : w4.heap.size < w5.heap.size := (by have := hb5.size; (try simp at this); omega))))) | (go_at_call 32; (fail_if_success (have := w5)); ((with_reducible refine (quoteL_c (c :: t) _ (hT.out.below (by repeat (first | (with_reducible exact Below.refl _ _) | (with_reducible refine below_al ?_ _) | (with_reducible refine below_drewN ?_ _) | (with_reducible refine Below.drew ?_) | (with_reducible refine below_via (by assumption) ?_) | (with_reducible refine below_sc ?_ ?_ _; · (first | (simp; done) | (simp; omega) | omega))))) hlen2).mono ?_); rintro e w5 ⟨rfl, hb5⟩; (try (replace hb5 := below_undrew hb5)); (try (replace hb5 := below_undrewN hb5)); obtain ⟨hc5, hf5⟩ := bcell hb5; (try (have hz_1_5 : w1.heap.size < w5.heap.size := (by have := hb5.size; (try simp at this); omega))); (try (have hz_2_5 : w2.heap.size < w5.heap.size := (by have := hb5.size; (try simp at this); omega))); (try (have hz_3_5 : w3.heap.size < w5.heap.size := (by have := hb5.size; (try simp at this); omega))); (try (have hz_4_5 : w4.heap.size < w5.heap.size := (by have := hb5.size; (try simp at this); omega))))) | (go_at_call 26; (fail_if_success (have := w6)); ((with_reducible refine (isNameL_c (c :: t) _ hne _).mono ?_); rintro e w6 ⟨rfl, hb6⟩; (try (replace hb6 := below_undrew hb6)); (try (replace hb6 := below_undrewN hb6)); obtain ⟨hc6, hf6⟩ := bcell hb6; (try (have hz_1_6 : w1.heap.size < w6.heap.size := (by have := hb6.size; (try simp at this); omega))); (try (have hz_2_6 : w2.heap.size < w6.heap.size := (by have := hb6.size; (try simp at this); omega))); (try (have hz_3_6 : w3.heap.size < w6.heap.size := (by have := hb6.size; (try simp at this); omega))); (try (have hz_4_6 : w4.heap.size < w6.heap.size := (by have := hb6.size; (try simp at this); omega))); (try (have hz_5_6 : w5.heap.size < w6.heap.size := (by have := hb6.size; (try simp at this); omega))))) | (go_at_call 29; (fail_if_success (have := w6)); ((with_reducible refine (isDigit_c _ _).mono ?_); rintro e w6 ⟨rfl, hb6⟩; (try (replace hb6 := below_undrew hb6)); (try (replace hb6 := below_undrewN hb6)); obtain ⟨hc6, hf6⟩ := bcell hb6; (try (have hz_1_6 : w1.heap.size < w6.heap.size := (by have := hb6.size; (try simp at this); omega))); (try (have hz_2_6 : w2.heap.size < w6.heap.size := (by have := hb6.size; (try simp at this); omega))); (try (have hz_3_6 : w3.heap.size < w6.heap.size := (by have := hb6.size; (try simp at this); omega))); (try (have hz_4_6 : w4.heap.size < w6.heap.size := (by have := hb6.size; (try simp at this); omega))); (try (have hz_5_6 : w5.heap.size < w6.heap.size := (by have := hb6.size; (try simp at this); omega))))) | (go_at_call 30; (fail_if_success (have := w6)); ((with_reducible refine (idxO_c (c :: t) ix hX.out _).mono ?_); rintro e w6 ⟨rfl, hb6⟩; (try (replace hb6 := below_undrew hb6)); (try (replace hb6 := below_undrewN hb6)); obtain ⟨hc6, hf6⟩ := bcell hb6; (try (have hz_1_6 : w1.heap.size < w6.heap.size := (by have := hb6.size; (try simp at this); omega))); (try (have hz_2_6 : w2.heap.size < w6.heap.size := (by have := hb6.size; (try simp at this); omega))); (try (have hz_3_6 : w3.heap.size < w6.heap.size := (by have := hb6.size; (try simp at this); omega))); (try (have hz_4_6 : w4.heap.size < w6.heap.size := (by have := hb6.size; (try simp at this); omega))); (try (have hz_5_6 : w5.heap.size < w6.heap.size := (by have := hb6.size; (try simp at this); omega))))) | (go_at_call 31; (fail_if_success (have := w6)); ((with_reducible refine (upper_c (c :: t) _ hlen hasc.out).mono ?_); rintro e w6 ⟨rfl, hb6⟩; (try (replace hb6 := below_undrew hb6)); (try (replace hb6 := below_undrewN hb6)); obtain ⟨hc6, hf6⟩ := bcell hb6; (try (have hz_1_6 : w1.heap.size < w6.heap.size := (by have := hb6.size; (try simp at this); omega))); (try (have hz_2_6 : w2.heap.size < w6.heap.size := (by have := hb6.size; (try simp at this); omega))); (try (have hz_3_6 : w3.heap.size < w6.heap.size := (by have := hb6.size; (try simp at this); omega))); (try (have hz_4_6 : w4.heap.size < w6.heap.size := (by have := hb6.size; (try simp at this); omega))); (try (have hz_5_6 : w5.heap.size < w6.heap.size := (by have := hb6.size; (try simp at this); omega))))) | (go_at_call 15; (fail_if_success (have := w6)); ((with_reducible refine (isWd_c (Lib.toUpperA (c :: t)) _ h3 _ (hT.out.below (by repeat (first | (with_reducible exact Below.refl _ _) | (with_reducible refine below_al ?_ _) | (with_reducible refine below_drewN ?_ _) | (with_reducible refine Below.drew ?_) | (with_reducible refine below_via (by assumption) ?_) | (with_reducible refine below_sc ?_ ?_ _; · (first | (simp; done) | (simp; omega) | omega)))))).mono ?_); rintro e w6 ⟨rfl, hb6⟩; (try (replace hb6 := below_undrew hb6)); (try (replace hb6 := below_undrewN hb6)); obtain ⟨hc6, hf6⟩ := bcell hb6; (try (have hz_1_6 : w1.heap.size < w6.heap.size := (by have := hb6.size; (try simp at this); omega))); (try (have hz_2_6 : w2.heap.size < w6.heap.size := (by have := hb6.size; (try simp at this); omega))); (try (have hz_3_6 : w3.heap.size < w6.heap.size := (by have := hb6.size; (try simp at this); omega))); (try (have hz_4_6 : w4.heap.size < w6.heap.size := (by have := hb6.size; (try simp at this); omega))); (try (have hz_5_6 : w5.heap.size < w6.heap.size := (by have := hb6.size; (try simp at this); omega))))) | (go_at_call 32; (fail_if_success (have := w6)); ((with_reducible refine (quoteL_c (c :: t) _ (hT.out.below (by repeat (first | (with_reducible exact Below.refl _ _) | (with_reducible refine below_al ?_ _) | (with_reducible refine below_drewN ?_ _) | (with_reducible refine Below.drew ?_) | (with_reducible refine below_via (by assumption) ?_) | (with_reducible refine below_sc ?_ ?_ _; · (first | (simp; done) | (simp; omega) | omega))))) hlen2).mono ?_); rintro e w6 ⟨rfl, hb6⟩; (try (replace hb6 := below_undrew hb6)); (try (replace hb6 := below_undrewN hb6)); obtain ⟨hc6, hf6⟩ := bcell hb6; (try (have hz_1_6 : w1.heap.size < w6.heap.size := (by have := hb6.size; (try simp at this); omega))); (try (have hz_2_6 : w2.heap.size < w6.heap.size := (by have := hb6.size; (try simp at this); omega))); (try (have hz_3_6 : w3.heap.size < w6.heap.size := (by have := hb6.size; (try simp at this); omega))); (try (have hz_4_6 : w4.heap.size < w6.heap.size := (by have := hb6.size; (try simp at this); omega))); (try (have hz_5_6 : w5.heap.size < w6.heap.size := (by have := hb6.size; (try simp at this); omega))))))
      all_goals (first
        | (exact bodyPost_ret (v := .tuple #[.string ⟨(quoteL 34 (c :: t)).toArray⟩, .int .i64 0]) (by simp [results, Tryd.results13, go_sem, *]) rfl ⟨rfl, (by repeat (first | (with_reducible exact Below.refl _ _) | (with_reducible refine below_al ?_ _) | (with_reducible refine below_drewN ?_ _) | (with_reducible refine Below.drew ?_) | (with_reducible refine below_via (by assumption) ?_) | (with_reducible refine below_sc ?_ ?_ _; · (first | (simp; done) | (simp; omega) | omega))))⟩)
        | (exact bodyPost_ret (v := .tuple #[.string ⟨(c :: t).toArray⟩, .int .i64 0]) (by simp [results, Tryd.results13, go_sem, *]) rfl ⟨rfl, (by repeat (first | (with_reducible exact Below.refl _ _) | (with_reducible refine below_al ?_ _) | (with_reducible refine below_drewN ?_ _) | (with_reducible refine Below.drew ?_) | (with_reducible refine below_via (by assumption) ?_) | (with_reducible refine below_sc ?_ ?_ _; · (first | (simp; done) | (simp; omega) | omega))))⟩)
        | trace_state)
end Go.Proofs.YtlaafpbhhnehgaaDoor
end
section
namespace Go.Proofs.YtlaafpbhhnehgaaDoor
set_option linter.unusedVariables false
set_option linter.unusedSimpArgs false
open Go.RowKit Go.Proofs.YtlaafpbhhnehgaaDoorW.PrintWords Go.Proofs.YtlaafpbhhnehgaaDoorW.PrintLast PLX
theorem tab_at {w0 W : World} (h : Tab w0) (hb : Below w0.heap.size w0 W) : Tab W := h.below hb
theorem tab_drew {w0 : World} (h : Tab w0) : Tab w0.drew := h.below (Below.refl _ _).drew
theorem tab_drewN {w0 : World} {n : Nat} (h : Tab w0) : Tab (w0.drewN n) := h.below (below_drewN (Below.refl _ _) n)
def scanP (s : ByteArray) : List S34 × Int × Int := if s.size ≤ 65536 then (match scanL 1000 s.size s.data.toList with | .ok l => (l, 0, 0) | .error p => ([], p, 20)) else ([], 0, 20)
def xScan.f (s : ByteArray) : Option (List S34 × Int × Int) := some (scanP s)
theorem xScan.calls (s : ByteArray) (r1 : List S34) (r2 r3 : Int) (w : World) (hT : Tab w) (h : xScan.f s = some (r1, r2, r3)) :
    Calls Tryd.prog 10 #[.string s] w fun e w' => ∃ v0_ : Value, e = .returned (.tuple #[v0_, .int .i64 r2, .int .i64 r3]) ∧ Kd.R k34 34 w' w.heap.size (fun _ => True) v0_ r1 ∧ Below w.heap.size w w' := by
  have h2 := Option.some.inj h
  unfold scanP at h2
  by_cases hs : s.size ≤ 65536
  · rw [if_pos hs] at h2
    refine (scan_c s w hT hs).mono ?_
    intro e w' ho
    cases hr : scanL 1000 s.size s.data.toList with
    | ok l =>
      rw [hr] at ho h2
      simp only [Prod.mk.injEq] at h2
      obtain ⟨rfl, rfl, rfl⟩ := h2
      exact ho
    | error p =>
      rw [hr] at ho h2
      simp only [Prod.mk.injEq] at h2
      obtain ⟨rfl, rfl, rfl⟩ := h2
      exact ⟨_, ho.1, Kd.R_nil _ _ _ _ _, ho.2⟩
  · rw [if_neg hs] at h2
    simp only [Prod.mk.injEq] at h2
    obtain ⟨rfl, rfl, rfl⟩ := h2
    refine (scan_big s w (by omega)).mono ?_
    rintro e w' ⟨rfl, hb⟩
    exact ⟨_, rfl, Kd.R_nil _ _ _ _ _, hb⟩
def xName.f (s : ByteArray) : Option (ByteArray × Int) := some (⟨(nameW s.data.toList).1.toArray⟩, (nameW s.data.toList).2)
theorem xName.calls (s : ByteArray) (r1 : ByteArray) (r2 : Int) (w : World) (hT : Tab w) (h : xName.f s = some (r1, r2)) :
    Calls Tryd.prog 13 #[.string s] w fun e w' => e = .returned (.tuple #[.string r1, .int .i64 r2]) ∧ Below w.heap.size w w' := by
  have h2 := Option.some.inj h
  simp only [Prod.mk.injEq] at h2
  obtain ⟨rfl, rfl⟩ := h2
  exact nameL_c s.data.toList w hT
def xIsWord.f (s : ByteArray) : Option Bool := some (isWd s.data.toList)
theorem xIsWord.calls (s : ByteArray) (r : Bool) (w : World) (hT : Tab w) (h : xIsWord.f s = some r) :
    Calls Tryd.prog 15 #[.string s] w fun e w' => e = .returned (.bool r) ∧ Below w.heap.size w w' := by
  cases Option.some.inj h
  exact isWord_k s w hT
def xQuoted.f (s : ByteArray) (q : Int) : Option ByteArray := if q = 39 ∧ s.size < 4294967281 then some ⟨(quoteL 39 s.data.toList).toArray⟩ else none
theorem xQuoted.calls (s : ByteArray) (q : Int) (r : ByteArray) (w : World) (hT : Tab w) (h : xQuoted.f s q = some r) :
    Calls Tryd.prog 32 #[.string s, .int .u8 q] w fun e w' => e = .returned (.string r) ∧ Below w.heap.size w w' := by
  unfold xQuoted.f at h
  split at h
  · rename_i hc
    obtain ⟨rfl, hs⟩ := hc
    cases Option.some.inj h
    exact quoted_39 s w hT hs
  · cases h
def xJoin.f (xs : List ByteArray) (sep : ByteArray) : Option ByteArray :=
  if xs.length ≤ 140737488355328 ∧ (Lib.join (xs.map (·.data.toList)) sep.data.toList).length ≤ 140737488355328 then some ⟨(Lib.join (xs.map (·.data.toList)) sep.data.toList).toArray⟩ else none
theorem xJoin.calls (A0 : Option Addr) (c0 : Nat) (l0 : List ByteArray) (sep r : ByteArray) (w : World) (hr0 : Kd.C Kd.string w A0 l0.length l0) (hc0 : l0.length ≤ c0) (h : xJoin.f l0 sep = some r) :
    Calls Tryd.prog 40 #[.slice A0 l0.length c0, .string sep] w fun e w' => e = .returned (.string r) ∧ Below w.heap.size w w' := by
  unfold xJoin.f at h
  split at h
  · rename_i hc
    cases Option.some.inj h
    obtain ⟨h1, h2, h3⟩ := hr0
    match l0, hc, h3, hc0 with
    | [], _, _, _ =>
      refine (Tryd.strings_Join_none A0 c0 sep w).mono ?_
      rintro e w' ⟨rfl, rfl⟩
      exact ⟨rfl, Below.refl _ _⟩
    | x :: t, hc, h3, hc0 =>
      obtain ⟨ad, rfl, hcells⟩ := h3 (by simp)
      have cell : ∀ (j : Nat) y, (x :: t)[j]? = some y → w.cell? (ad.add j) = some (.string y) := by
        intro j y hy
        obtain ⟨c, hl, hK, hcl⟩ := hcells j y hy
        have hK' : c = [.string y] := hK
        subst hK'
        have := hcl 0 (.string y) rfl
        simpa [show Kd.string.sz = 1 from rfl] using this
      have hsp : ad.spot = none := by
        have h0 := cell 0 x rfl
        simp only [Addr.add, if_true] at h0
        unfold World.cell? at h0
        cases hh : ad.spot with
        | none => rfl
        | some k =>
          rw [hh] at h0
          split at h0 <;> simp at h0
      obtain ⟨bk, o, spt⟩ := ad
      simp only at hsp
      subst hsp
      have cell2 : ∀ (j : Nat) y, (x :: t)[j]? = some y → w.cell? ⟨bk, o + j, none⟩ = some (.string y) := by
        intro j y hy
        have := cell j y hy
        unfold Addr.add at this
        split at this
        · subst_vars; simpa using this
        · exact this
      exact Tryd.strings_Join bk o c0 (x :: t) sep w cell2 (World.block_lt_of_cell? w _ (cell2 0 x rfl)) hc.1 hc0 hc.2
  · cases h
end Go.Proofs.YtlaafpbhhnehgaaDoor
end
section
namespace Go.Proofs.YtlaafpbhhnehgaaDoor
set_option linter.unusedVariables false
set_option linter.unusedSimpArgs false
open Go.RowKit Go.Proofs.YtlaafpbhhnehgaaDoorW.PrintWords Go.Proofs.YtlaafpbhhnehgaaDoorW.PrintLast PLX
theorem take_self {l x : List UInt8} {n : Nat} (h : x = l.take n) (hn : n ≤ l.length) : x = l.take x.length := by
  have : x.length = n := by rw [h, List.length_take]; omega
  rw [this]; exact h
/-- what a token is like -/
structure TokOk (l : List UInt8) (k : Int) (x : List UInt8) : Prop where
  lo : 1 ≤ k
  hi : k ≤ 6
  some_ : x ≠ [] ∨ k = 5
  there : k = 6 ∨ k = 4 → x = l.take x.length ∧ x.length ≤ l.length
  word : k = 2 → isWd x = true
theorem run_pos {p : Int → Bool} {c : UInt8} {t : List UInt8} (h : p c.toNat = true) : 1 ≤ runL p (c :: t) := by rw [runL, if_pos h]; omega
theorem pre_take {l p : List UInt8} (h : Lib.hasPrefix l p = true) : p = l.take p.length ∧ p.length ≤ l.length := by
  have := List.isPrefixOf_iff_prefix.1 h
  exact ⟨List.prefix_iff_eq_take.1 this, this.length_le⟩
theorem tok_ok {l : List UInt8} {k : Int} {x : List UInt8} {m : Nat} (h : tokL l = some (k, x, m)) : TokOk l k x := by
  match l, h with
  | c :: t, h =>
    rw [tokL] at h
    by_cases h1 : isLet c.toNat = true
    · rw [if_pos h1] at h
      have hi : isInn c.toNat = true := by simp [isInn, h1]
      have hr := run_pos (t := t) hi
      obtain ⟨n, hn⟩ : ∃ n, runL isInn (c :: t) = n + 1 := ⟨runL isInn (c :: t) - 1, by omega⟩
      unfold wordT at h
      rw [hn, List.take_succ_cons] at h
      split at h
      · rename_i hw
        simp only [Option.some.injEq, Prod.mk.injEq] at h
        obtain ⟨rfl, rfl, rfl⟩ := h
        exact ⟨by omega, by omega, .inl (by simp [Lib.toUpperA]), fun hh => by omega, fun _ => hw⟩
      · split at h
        · simp only [Option.some.injEq, Prod.mk.injEq] at h
          obtain ⟨rfl, rfl, rfl⟩ := h
          exact ⟨by omega, by omega, .inl (by simp [Lib.toLowerA]), fun hh => by omega, fun hh => by omega⟩
        · cases h
    · rw [if_neg h1] at h
      by_cases h2 : isDig c.toNat = true
      · rw [if_pos h2] at h
        have hr1 := run_pos (t := t) h2
        have hr2 := runL_le isDig (c :: t)
        have ht := tok_le (l := c :: t) (k := k) (x := x) (m := m) (by rw [tokL, if_neg h1, if_pos h2]; exact h)
        unfold numT at h
        split at h
        · split at h
          · simp only [Option.some.injEq, Prod.mk.injEq] at h
            obtain ⟨rfl, rfl, rfl⟩ := h
            refine ⟨by omega, by omega, .inl ?_, fun _ => ⟨take_self rfl ht.2, by rw [List.length_take]; omega⟩, fun hh => by omega⟩
            intro hc
            have := congrArg List.length hc
            rw [List.length_take] at this
            simp only [List.length_nil] at this
            omega
          · cases h
        · split at h
          · simp only [Option.some.injEq, Prod.mk.injEq] at h
            obtain ⟨rfl, rfl, rfl⟩ := h
            refine ⟨by omega, by omega, .inl ?_, fun hh => by omega, fun hh => by omega⟩
            intro hc
            have := congrArg List.length hc
            unfold bareN at this
            rw [List.length_append, List.length_take, List.length_drop] at this
            simp only [List.length_nil] at this
            omega
          · cases h
      · rw [if_neg h2] at h
        by_cases h3 : c = 34
        · rw [if_pos h3] at h
          cases hb : betL 34 t with
          | none => rw [hb] at h; simp [nameT] at h
          | some r =>
            rw [hb] at h
            simp only [nameT] at h
            split at h
            · rename_i hn
              simp only [Option.some.injEq, Prod.mk.injEq] at h
              obtain ⟨rfl, rfl, rfl⟩ := h
              refine ⟨by omega, by omega, .inl ?_, fun hh => by omega, fun hh => by omega⟩
              intro hc
              rw [hc] at hn
              rw [nameL_eq] at hn
              simp [nameP] at hn
            · cases h
        · rw [if_neg h3] at h
          by_cases h4 : c = 39
          · rw [if_pos h4] at h
            cases hb : betL 39 t with
            | none => rw [hb] at h; simp [textT] at h
            | some r =>
              rw [hb] at h
              simp only [textT] at h
              split at h
              · simp only [Option.some.injEq, Prod.mk.injEq] at h
                obtain ⟨rfl, rfl, rfl⟩ := h
                exact ⟨by omega, by omega, .inr rfl, fun hh => by omega, fun hh => by omega⟩
              · cases h
          · rw [if_neg h4] at h
            have two : ∀ i, twoS i ≠ [] := by intro i; unfold twoS; split <;> simp
            unfold signT at h
            split at h
            · rename_i hh
              simp only [Option.some.injEq, Prod.mk.injEq] at h; obtain ⟨rfl, rfl, rfl⟩ := h
              exact ⟨by omega, by omega, .inl (two 0), fun _ => pre_take hh, fun hh => by omega⟩
            · split at h
              · rename_i hh
                simp only [Option.some.injEq, Prod.mk.injEq] at h; obtain ⟨rfl, rfl, rfl⟩ := h
                exact ⟨by omega, by omega, .inl (two 1), fun _ => pre_take hh, fun hh => by omega⟩
              · split at h
                · rename_i hh
                  simp only [Option.some.injEq, Prod.mk.injEq] at h; obtain ⟨rfl, rfl, rfl⟩ := h
                  exact ⟨by omega, by omega, .inl (two 2), fun _ => pre_take hh, fun hh => by omega⟩
                · split at h
                  · rename_i hh
                    simp only [Option.some.injEq, Prod.mk.injEq] at h; obtain ⟨rfl, rfl, rfl⟩ := h
                    exact ⟨by omega, by omega, .inl (two 3), fun _ => pre_take hh, fun hh => by omega⟩
                  · split at h
                    · simp only [Option.some.injEq, Prod.mk.injEq] at h; obtain ⟨rfl, rfl, rfl⟩ := h
                      exact ⟨by omega, by omega, .inl (by simp), fun _ => ⟨by simp, by simp⟩, fun hh => by omega⟩
                    · cases h
/-- what is left behind skip is an end of what was there -/
theorem skip_suf : ∀ (l : List UInt8) (m : Nat) (st : List UInt8), (∃ n, (skipL m st l).1 = l.drop n) ∨ (skipL m st l).1 = st
  | [], m, st => by
    unfold skipL; split
    · exact .inr rfl
    · exact .inl ⟨0, rfl⟩
  | c :: t, m, st => by
    have up : ∀ m' st', ((∃ n, (skipL m' st' t).1 = t.drop n) ∨ (skipL m' st' t).1 = st') → (st' = st ∨ st' = [] ∨ st' = c :: t) → (∃ n, (skipL m' st' t).1 = (c :: t).drop n) ∨ (skipL m' st' t).1 = st := by
      intro m' st' h hs
      rcases h with ⟨n, h⟩ | h
      · exact .inl ⟨n + 1, h⟩
      · rcases hs with hs | hs | hs
        · exact .inr (h.trans hs)
        · exact .inl ⟨(c :: t).length, by rw [h, hs, List.drop_length]⟩
        · exact .inl ⟨0, by rw [h, hs]; rfl⟩
    unfold skipL
    split
    · split
      · exact up _ _ (skip_suf t 0 []) (.inr (.inl rfl))
      · split
        · exact up _ _ (skip_suf t 1 []) (.inr (.inl rfl))
        · split
          · exact up _ _ (skip_suf t 2 (c :: t)) (.inr (.inr rfl))
          · exact .inl ⟨0, rfl⟩
    · split
      · split
        · exact up _ _ (skip_suf t 0 []) (.inr (.inl rfl))
        · exact up _ _ (skip_suf t 1 []) (.inr (.inl rfl))
      · split
        · exact up _ _ (skip_suf t 3 st) (.inl rfl)
        · split
          · split
            · exact up _ _ (skip_suf t 4 st) (.inl rfl)
            · exact up _ _ (skip_suf t 3 st) (.inl rfl)
          · exact up _ _ (skip_suf t 0 []) (.inr (.inl rfl))
theorem skip_drop (l : List UInt8) : ∃ n, n ≤ l.length ∧ (skipL 0 [] l).1 = l.drop n := by
  rcases skip_suf l 0 [] with ⟨n, h⟩ | h
  · by_cases hn : n ≤ l.length
    · exact ⟨n, hn, h⟩
    · exact ⟨l.length, Nat.le_refl _, by rw [h, List.drop_of_length_le (by omega), List.drop_length]⟩
  · exact ⟨l.length, Nat.le_refl _, by rw [h, List.drop_length]⟩
/-- tokens that stand in rising places of the text L, from lo on -/
def PLs (L : List UInt8) : Nat → List S34 → Prop
  | _, [] => False
  | lo, [e] => e = ⟨0, ⟨#[]⟩, (L.length : Int)⟩ ∧ lo ≤ L.length
  | lo, t :: u :: r => ∃ q : Nat, lo ≤ q ∧ q < L.length ∧ t.f2 = q ∧ TokOk (L.drop q) t.f0 t.f1.data.toList ∧ PLs L (q + 1) (u :: r)
theorem PLs.mono {L : List UInt8} : ∀ {l : List S34} {a b : Nat}, a ≤ b → PLs L b l → PLs L a l
  | [], _, _, _, h => h
  | [e], _, _, hab, h => ⟨h.1, Nat.le_trans hab h.2⟩
  | t :: u :: r, _, _, hab, ⟨q, h1, h2⟩ => ⟨q, Nat.le_trans hab h1, h2⟩
theorem PLs.cons {L : List UInt8} {lo q : Nat} {t : S34} {l : List S34} (h1 : lo ≤ q) (h2 : q < L.length) (h3 : t.f2 = q) (h4 : TokOk (L.drop q) t.f0 t.f1.data.toList) (h5 : PLs L (q + 1) l) : PLs L lo (t :: l) := by
  match l, h5 with
  | u :: r, h5 => exact ⟨q, h1, h2, h3, h4, h5⟩
theorem scan_places (L : List UInt8) : ∀ (d p : Nat) (l : List S34), p ≤ L.length → scanL d L.length (L.drop p) = .ok l → PLs L p l ∧ l.length ≤ d + 1 := by
  intro d
  induction d with
  | zero =>
    intro p l hp h
    unfold scanL at h
    split at h
    · cases h
    · split at h
      · cases h; exact ⟨⟨rfl, hp⟩, by simp⟩
      · cases h
  | succ d ih =>
    intro p l hp h
    unfold scanL at h
    obtain ⟨n, hn, hsk⟩ := skip_drop (L.drop p)
    rw [List.length_drop] at hn
    rw [List.drop_drop] at hsk
    rw [hsk] at h
    split at h
    · cases h
    · split at h
      · cases h; exact ⟨⟨rfl, hp⟩, by simp⟩
      · rename_i hne
        have hq : p + n < L.length := by
          by_cases hc : p + n < L.length
          · exact hc
          · exact absurd (List.drop_of_length_le (by omega)) hne
        cases ht : tokL (L.drop (p + n)) with
        | none => rw [ht] at h; cases h
        | some r =>
          obtain ⟨k, x, m⟩ := r
          rw [ht] at h
          simp only [List.drop_drop] at h
          have hm := tok_le ht
          rw [List.length_drop] at hm
          cases hs : scanL d L.length (L.drop (p + n + m)) with
          | error e => rw [hs] at h; cases h
          | ok l' =>
            rw [hs] at h
            simp only [Except.map, Except.ok.injEq] at h
            subst h
            obtain ⟨i1, i2⟩ := ih (p + n + m) l' (by omega) hs
            have hl : L.length - (L.drop (p + n)).length = p + n := by rw [List.length_drop]; omega
            refine ⟨PLs.cons (q := p + n) (by omega) hq (by simp only [hl]) (tok_ok ht) (i1.mono (by omega)), by simp; omega⟩
end Go.Proofs.YtlaafpbhhnehgaaDoor
end
section
namespace Go.Proofs.YtlaafpbhhnehgaaDoor
set_option linter.unusedVariables false
set_option linter.unusedSimpArgs false
open Go.RowKit Go.Proofs.YtlaafpbhhnehgaaDoorW.PrintWords Go.Proofs.YtlaafpbhhnehgaaDoorW.PrintLast PLX
theorem head_nl (t R : List UInt8) (q : UInt8) (h : q ≠ 10) : ((t ++ 10 :: R).head? = some q) = (t.head? = some q) := by
  match t with
  | [] => simp; exact fun hh => h hh.symm
  | c :: t => rfl
/-- what skip leaves, with a line's end and more behind -/
theorem skip_nlR (R : List UInt8) : ∀ (l : List UInt8) (m : Nat) (st st' r : List UInt8), skipL m st l = (r, true) → skipL m st' (l ++ 10 :: R) = if r = [] then skipL 0 [] R else (r ++ 10 :: R, true)
  | [], m, st, st', r, h => by
    unfold skipL at h
    split at h
    · cases h
    · rename_i hm
      obtain rfl : [] = r := (Prod.mk.inj h).1
      rw [if_pos rfl, List.nil_append, skipL]
      have h2 : m ≠ 2 := fun e => hm (.inl e)
      have h3 : m ≠ 3 := fun e => hm (.inr e)
      by_cases h0 : m = 0
      · simp [h0, sp]
      · by_cases h1 : m = 1
        · simp [h1]
        · simp [h0, h1, h2, h3]
  | c :: t, m, st, st', r, h => by
    have ih := skip_nlR R t
    rw [skipL] at h
    rw [List.cons_append, skipL]
    simp only [head_nl t R 45 (by decide), head_nl t R 42 (by decide), head_nl t R 47 (by decide)]
    by_cases h0 : m = 0
    · rw [if_pos h0] at h ⊢
      by_cases hs : sp c = true
      · rw [if_pos hs] at h ⊢; exact ih _ _ _ _ h
      · rw [if_neg hs] at h ⊢
        by_cases h1 : c = 45 ∧ t.head? = some 45
        · rw [if_pos h1] at h ⊢; exact ih _ _ _ _ h
        · rw [if_neg h1] at h ⊢
          by_cases h2 : c = 47 ∧ t.head? = some 42
          · rw [if_pos h2] at h ⊢; exact ih _ _ _ _ h
          · rw [if_neg h2] at h ⊢
            obtain rfl := (Prod.mk.inj h).1
            rw [if_neg (by simp)]; rfl
    · rw [if_neg h0] at h ⊢
      by_cases h1 : m = 1
      · rw [if_pos h1] at h ⊢
        by_cases hc : c = 10
        · rw [if_pos hc] at h ⊢; exact ih _ _ _ _ h
        · rw [if_neg hc] at h ⊢; exact ih _ _ _ _ h
      · rw [if_neg h1] at h ⊢
        by_cases h2 : m = 2
        · rw [if_pos h2] at h ⊢; exact ih _ _ _ _ h
        · rw [if_neg h2] at h ⊢
          by_cases h3 : m = 3
          · rw [if_pos h3] at h ⊢
            by_cases hc : c = 42 ∧ t.head? = some 47
            · rw [if_pos hc] at h ⊢; exact ih _ _ _ _ h
            · rw [if_neg hc] at h ⊢; exact ih _ _ _ _ h
          · rw [if_neg h3] at h ⊢; exact ih _ _ _ _ h
theorem run_nl (p : Int → Bool) (hp : p 10 = false) (R : List UInt8) : ∀ l : List UInt8, runL p (l ++ 10 :: R) = runL p l
  | [] => by rw [List.nil_append, runL]; exact if_neg (by show ¬ p 10 = true; rw [hp]; exact Bool.false_ne_true)
  | c :: t => by rw [List.cons_append, runL, run_nl p hp R t, runL]
theorem take_nl {l : List UInt8} (X : List UInt8) {n : Nat} (h : n ≤ l.length) : (l ++ X).take n = l.take n := List.take_append_of_le_length h
theorem drop_nl {l : List UInt8} (X : List UInt8) {n : Nat} (h : n ≤ l.length) : (l ++ X).drop n = l.drop n ++ X := List.drop_append_of_le_length h
theorem dot_nl (R l : List UInt8) (n : Nat) (h : n ≤ l.length) : dotD (l ++ 10 :: R) n = dotD l n := by
  unfold dotD
  rw [drop_nl _ h]
  match l.drop n with
  | [] => match R with
    | [] => rfl
    | d :: u => rfl
  | [c] => show (c == 46 && isDig 10) = false; rw [show isDig 10 = false by decide, Bool.and_false]
  | c :: d :: u => rfl
theorem dot_lt {l : List UInt8} {n : Nat} (h : dotD l n = true) : n + 1 < l.length := by
  unfold dotD at h
  have := List.length_drop (i := n) (l := l)
  match hd : l.drop n with
  | [] => rw [hd] at h; cases h
  | [c] => rw [hd] at h; cases h
  | c :: d :: u => rw [hd] at this; simp at this; omega
theorem bet_nl (q : UInt8) (hq : q ≠ 10) (R : List UInt8) : ∀ (l : List UInt8) (r : List UInt8 × Nat), betL q l = some r → betL q (l ++ 10 :: R) = some r
  | [], r, h => by cases h
  | [c], r, h => by
    unfold betL at h
    split at h
    · rename_i hc
      subst hc
      show betL c (c :: 10 :: R) = _
      rw [betL_end c _ (by simp [Lib.hasPrefix, List.isPrefixOf, hq])]; exact h
    · cases h
  | c :: d :: t, r, h => by
    unfold betL at h
    split at h
    · rename_i hc
      subst hc
      split at h
      · rename_i hd
        subst hd
        show betL d (d :: d :: (t ++ 10 :: R)) = _
        rw [betL_two]
        cases hb : betL d t with
        | none => rw [hb] at h; cases h
        | some r2 => rw [bet_nl d hq R t r2 hb]; rw [hb] at h; exact h
      · rename_i hd
        show betL c (c :: d :: (t ++ 10 :: R)) = _
        rw [betL_end c _ (by simp [Lib.hasPrefix, List.isPrefixOf]; exact fun e => hd e.symm)]; exact h
    · rename_i hc
      show betL q (c :: ((d :: t) ++ 10 :: R)) = _
      rw [betL_ne _ _ _ hc]
      cases hb : betL q (d :: t) with
      | none => rw [hb] at h; cases h
      | some r2 => rw [bet_nl q hq R (d :: t) r2 hb]; rw [hb] at h; exact h
theorem pre_nl (R : List UInt8) (c : UInt8) (t : List UInt8) (a b : UInt8) (hb : b ≠ 10) : Lib.hasPrefix (c :: (t ++ 10 :: R)) [a, b] = Lib.hasPrefix (c :: t) [a, b] := by
  match t with
  | [] => simp [Lib.hasPrefix, List.isPrefixOf, hb]
  | d :: u => simp [Lib.hasPrefix, List.isPrefixOf]
theorem word_nl (R l : List UInt8) : wordT (l ++ 10 :: R) = wordT l := by
  unfold wordT
  rw [run_nl isInn (by decide), take_nl _ (runL_le _ _)]
theorem num_nl (R : List UInt8) (l : List UInt8) (h1 : 1 ≤ runL isDig l) : numT (l ++ 10 :: R) = numT l := by
  have hn := runL_le isDig l
  unfold numT
  rw [run_nl isDig (by decide), dot_nl _ _ _ hn]
  generalize runL isDig l = n at *
  cases hd : dotD l n
  · rw [if_neg Bool.false_ne_true, if_neg Bool.false_ne_true]
    have hb : bareN (l ++ 10 :: R) n = bareN l n := by
      unfold bareN
      rw [take_nl _ (by omega), drop_nl _ (by omega), take_nl _ (by rw [List.length_drop]; omega)]
    rw [hb]
  · have hl := dot_lt hd
    rw [if_pos rfl, if_pos rfl, drop_nl _ (by omega), run_nl isDig (by decide)]
    have h2 := runL_le isDig (l.drop (n + 1))
    rw [List.length_drop] at h2
    rw [take_nl _ (by omega)]
theorem tok_nl (R : List UInt8) {l : List UInt8} {r : Int × List UInt8 × Nat} (h : tokL l = some r) : tokL (l ++ 10 :: R) = some r := by
  match l, h with
  | c :: t, h =>
    rw [tokL] at h
    rw [List.cons_append, tokL]
    by_cases h1 : isLet c.toNat = true
    · rw [if_pos h1] at h ⊢
      rw [← List.cons_append, word_nl]; exact h
    · rw [if_neg h1] at h ⊢
      by_cases h2 : isDig c.toNat = true
      · rw [if_pos h2] at h ⊢
        rw [← List.cons_append, num_nl _ _ (run_pos h2)]; exact h
      · rw [if_neg h2] at h ⊢
        by_cases h3 : c = 34
        · rw [if_pos h3] at h ⊢
          cases hb : betL 34 t with
          | none => rw [hb] at h; cases h
          | some r2 => rw [bet_nl 34 (by decide) R t r2 hb]; rw [hb] at h; exact h
        · rw [if_neg h3] at h ⊢
          by_cases h4 : c = 39
          · rw [if_pos h4] at h ⊢
            cases hb : betL 39 t with
            | none => rw [hb] at h; cases h
            | some r2 => rw [bet_nl 39 (by decide) R t r2 hb]; rw [hb] at h; exact h
          · rw [if_neg h4] at h ⊢
            unfold signT at h ⊢
            rw [show twoS 0 = [60, 62] from rfl, show twoS 1 = [60, 61] from rfl, show twoS 2 = [62, 61] from rfl, show twoS 3 = [124, 124] from rfl] at *
            rw [pre_nl _ _ _ _ _ (by decide), pre_nl _ _ _ _ _ (by decide), pre_nl _ _ _ _ _ (by decide), pre_nl _ _ _ _ _ (by decide)]
            exact h
theorem scan_skip {l l' : List UInt8} (h : skipL 0 [] l = skipL 0 [] l') : ∀ (d sz : Nat), scanL d sz l = scanL d sz l'
  | 0, sz => by unfold scanL; rw [h]
  | d + 1, sz => by unfold scanL; rw [h]
/-- the two ways in which a scan goes well -/
theorem scan_cases {d sz : Nat} {l : List UInt8} {a : List S34} (h : scanL d sz l = .ok a) :
    (skipL 0 [] l = ([], true) ∧ a = [⟨0, ⟨#[]⟩, (sz : Int)⟩]) ∨ ∃ d' r k x m a2, d = d' + 1 ∧ skipL 0 [] l = (r, true) ∧ r ≠ [] ∧ tokL r = some (k, x, m) ∧ scanL d' sz (r.drop m) = .ok a2 ∧ a = ⟨k, ⟨x.toArray⟩, ((sz - r.length : Nat) : Int)⟩ :: a2 := by
  obtain ⟨r, b, hs⟩ : ∃ r b, skipL 0 [] l = (r, b) := ⟨_, _, rfl⟩
  match d with
  | 0 =>
    unfold scanL at h
    rw [hs] at h
    cases b with
    | false => rw [if_pos rfl] at h; cases h
    | true =>
      rw [if_neg (by simp)] at h
      by_cases hr : r = []
      · rw [if_pos hr] at h; exact .inl ⟨by rw [hs, hr], (Except.ok.inj h).symm⟩
      · rw [if_neg hr] at h; cases h
  | d' + 1 =>
    unfold scanL at h
    rw [hs] at h
    cases b with
    | false => rw [if_pos rfl] at h; cases h
    | true =>
      rw [if_neg (by simp)] at h
      by_cases hr : r = []
      · rw [if_pos hr] at h; exact .inl ⟨by rw [hs, hr], (Except.ok.inj h).symm⟩
      · rw [if_neg hr] at h
        cases ht : tokL r with
        | none => simp only [ht] at h; cases h
        | some q =>
          obtain ⟨k, x, m⟩ := q
          simp only [ht] at h
          cases h2 : scanL d' sz (r.drop m) with
          | error e => rw [h2] at h; cases h
          | ok a2 => rw [h2] at h; exact .inr ⟨d', r, k, x, m, a2, rfl, hs, hr, ht, h2, (Except.ok.inj h).symm⟩
theorem scan_mk {d sz : Nat} {l r : List UInt8} {k : Int} {x : List UInt8} {m : Nat} (h1 : skipL 0 [] l = (r, true)) (h2 : r ≠ []) (h3 : tokL r = some (k, x, m)) :
    scanL (d + 1) sz l = (scanL d sz (r.drop m)).map (fun a => (⟨k, ⟨x.toArray⟩, ((sz - r.length : Nat) : Int)⟩ : S34) :: a) := by
  rw [scanL, h1]
  simp only [Bool.true_eq_false, if_false, if_neg h2, h3]
theorem scan_ne {d sz : Nat} {l : List UInt8} {a : List S34} (h : scanL d sz l = .ok a) : 1 ≤ a.length := by
  rcases scan_cases h with ⟨_, rfl⟩ | ⟨d', r, k, x, m, a2, _, _, _, _, _, rfl⟩ <;> simp
theorem scan_budget : ∀ (d d' sz : Nat) (l : List UInt8) (a : List S34), scanL d sz l = .ok a → a.length ≤ d' + 1 → scanL d' sz l = .ok a := by
  intro d
  induction d with
  | zero =>
    intro d' sz l a h _
    rcases scan_cases h with ⟨h1, rfl⟩ | ⟨d', r, k, x, m, a2, hd, _⟩
    · exact scan_done h1
    · omega
  | succ d ih =>
    intro d' sz l a h hl
    rcases scan_cases h with ⟨h1, rfl⟩ | ⟨d2, r, k, x, m, a2, hd, h1, h2, h3, h4, rfl⟩
    · exact scan_done h1
    · obtain rfl : d = d2 := by omega
      have hn := scan_ne h4
      simp only [List.length_cons] at hl
      obtain ⟨e, rfl⟩ : ∃ e, d' = e + 1 := ⟨d' - 1, by omega⟩
      rw [scan_mk h1 h2 h3, ih e sz _ a2 h4 (by omega)]; rfl
def shT (k : Nat) (t : S34) : S34 := ⟨t.f0, t.f1, t.f2 + (k : Int)⟩
theorem skip_len {l r : List UInt8} {b : Bool} (h : skipL 0 [] l = (r, b)) : r.length ≤ l.length := by
  obtain ⟨n, hn, e⟩ := skip_drop l
  rw [h] at e
  simp only at e
  rw [e, List.length_drop]; omega
theorem scan_shift (k : Nat) : ∀ (d sz : Nat) (l : List UInt8) (a : List S34), l.length ≤ sz → scanL d sz l = .ok a → scanL d (sz + k) l = .ok (a.map (shT k)) := by
  intro d
  induction d with
  | zero =>
    intro sz l a _ h
    rcases scan_cases h with ⟨h1, rfl⟩ | ⟨d', r, k, x, m, a2, hd, _⟩
    · rw [scan_done h1]; simp [shT]
    · omega
  | succ d ih =>
    intro sz l a hl h
    rcases scan_cases h with ⟨h1, rfl⟩ | ⟨d2, r, j, x, m, a2, hd, h1, h2, h3, h4, rfl⟩
    · rw [scan_done h1]; simp [shT]
    · obtain rfl : d = d2 := by omega
      have hr := skip_len h1
      rw [scan_mk h1 h2 h3, ih sz _ a2 (by rw [List.length_drop]; omega) h4]
      simp only [Except.map, List.map_cons, shT]
      congr 3; omega
theorem scan_nl (R : List UInt8) : ∀ (d D sz : Nat) (l : List UInt8) (a : List S34), l.length ≤ sz → a.length ≤ D + 1 → scanL d sz l = .ok a →
    scanL D (sz + (R.length + 1)) (l ++ 10 :: R) = (scanL (D - (a.length - 1)) (sz + (R.length + 1)) R).map (a.dropLast ++ ·) := by
  have base : ∀ (D sz : Nat) (l : List UInt8), skipL 0 [] l = ([], true) → scanL D (sz + (R.length + 1)) (l ++ 10 :: R) = (scanL (D - (([⟨0, ⟨#[]⟩, (sz : Int)⟩] : List S34).length - 1)) (sz + (R.length + 1)) R).map (([⟨0, ⟨#[]⟩, (sz : Int)⟩] : List S34).dropLast ++ ·) := by
    intro D sz l h1
    have := skip_nlR R l 0 [] [] [] h1
    rw [if_pos rfl] at this
    rw [scan_skip this]
    simp only [List.length_cons, List.length_nil, Nat.zero_add, Nat.sub_self, Nat.sub_zero, List.dropLast_singleton, List.nil_append]
    cases scanL D (sz + (R.length + 1)) R <;> rfl
  intro d
  induction d with
  | zero =>
    intro D sz l a hl ha h
    rcases scan_cases h with ⟨h1, rfl⟩ | ⟨d', r, k, x, m, a2, hd, _⟩
    · exact base D sz l h1
    · omega
  | succ d ih =>
    intro D sz l a hl ha h
    rcases scan_cases h with ⟨h1, rfl⟩ | ⟨d2, r, j, x, m, a2, hd, h1, h2, h3, h4, rfl⟩
    · exact base D sz l h1
    · obtain rfl : d = d2 := by omega
      have hr := skip_len h1
      have hm := tok_le h3
      have hn := scan_ne h4
      simp only [List.length_cons] at ha
      obtain ⟨E, rfl⟩ : ∃ E, D = E + 1 := ⟨D - 1, by omega⟩
      have hs := skip_nlR R l 0 [] [] r h1
      rw [if_neg h2] at hs
      rw [scan_mk hs (by simp) (tok_nl R h3), drop_nl _ hm.2, ih E sz _ a2 (by rw [List.length_drop]; omega) (by omega) h4]
      have e1 : E - (a2.length - 1) = E + 1 - ((⟨j, ⟨x.toArray⟩, ((sz - r.length : Nat) : Int)⟩ :: a2 : List S34).length - 1) := by simp only [List.length_cons]; omega
      have e2 : (⟨j, ⟨x.toArray⟩, ((sz - r.length : Nat) : Int)⟩ :: a2 : List S34).dropLast = ⟨j, ⟨x.toArray⟩, ((sz - r.length : Nat) : Int)⟩ :: a2.dropLast := by
        match a2, hn with
        | y :: ys, _ => rfl
      have e3 : sz + (R.length + 1) - (r ++ 10 :: R).length = sz - r.length := by rw [List.length_append, List.length_cons]; omega
      rw [← e1, e2, e3]
      cases scanL (E - (a2.length - 1)) (sz + (R.length + 1)) R <;> rfl
/-- a remark without stars -/
theorem skip_remark (T : List UInt8) : ∀ (m st : List UInt8), (∀ b ∈ m, b ≠ 42) → skipL 3 st (m ++ 42 :: 47 :: T) = skipL 0 [] T
  | [], st, _ => by
    rw [List.nil_append, skipL]
    simp only [List.head?_cons, and_self, if_true]
    rw [if_neg (by omega), if_neg (by omega), if_neg (by omega)]
    exact skip4 _ _ _
  | c :: t, st, h => by
    rw [List.cons_append, skipL]
    have hc : c ≠ 42 := h c (List.mem_cons_self ..)
    rw [if_neg (by omega), if_neg (by omega), if_neg (by omega), if_pos rfl, if_neg (fun hh => hc hh.1)]
    exact skip_remark T t st (fun b hb => h b (List.mem_cons_of_mem _ hb))
theorem skip_remark2 (T m : List UInt8) (h : ∀ b ∈ m, b ≠ 42) : skipL 0 [] (47 :: 42 :: (m ++ 42 :: 47 :: T)) = skipL 0 [] T := by
  have e : skipL 0 [] (47 :: 42 :: (m ++ 42 :: 47 :: T)) = skipL 3 (47 :: 42 :: (m ++ 42 :: 47 :: T)) (m ++ 42 :: 47 :: T) := by
    rw [skipL]; simp [sp]
    rw [skipL]; simp
  rw [e]; exact skip_remark T m _ h
/-- what stands behind with R, whose tokens are T's -/
theorem scan_two (S T R : List UInt8) (a b : List S34) (ha : scanL 1000 S.length S = .ok a) (hb : scanL 1000 T.length T = .ok b) (hn : a.length + b.length ≤ 1000) (hR : skipL 0 [] R = skipL 0 [] T) (hl : T.length ≤ R.length) :
    scanL 1000 (S.length + (R.length + 1)) (S ++ 10 :: R) = .ok (a.dropLast ++ b.map (shT (S.length + (R.length + 1) - T.length))) := by
  have h1 := scan_ne ha
  rw [scan_nl R 1000 1000 S.length S a (Nat.le_refl _) (by omega) ha, scan_skip hR]
  have h2 := scan_budget 1000 (1000 - (a.length - 1)) T.length T b hb (by omega)
  have h3 := scan_shift (S.length + (R.length + 1) - T.length) _ _ T b (Nat.le_refl _) h2
  rw [show T.length + (S.length + (R.length + 1) - T.length) = S.length + (R.length + 1) by omega] at h3
  rw [h3]; rfl
end Go.Proofs.YtlaafpbhhnehgaaDoor
end
