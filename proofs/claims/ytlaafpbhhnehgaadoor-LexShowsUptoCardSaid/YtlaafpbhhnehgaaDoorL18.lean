/- lex.Scan: the walk. -/
import Derived.Test.YtlaafpbhhnehgaaDoorL17
import Derived.Deep.RegionHeld3
namespace Go.Proofs.YtlaafpbhhnehgaaDoor
set_option linter.unusedVariables false
set_option linter.unusedSimpArgs false
open Go.RowKit Go.Proofs.YtlaafpbhhnehgaaDoorW.PrintWords Go.Proofs.YtlaafpbhhnehgaaDoorW.PrintLast PLX

set_option maxRecDepth 100000 in
set_option maxHeartbeats 2000000 in
theorem scan_big (s : ByteArray) (w : World) (hs : 65536 < s.size) :
    Calls Tryd.prog 10 #[.string s] w fun e w' => e = .returned (.tuple #[.slice none 0 0, .int .i64 0, .int .i64 20]) ∧ Below w.heap.size w w' := by
  go_enter_defers Tryd.func10, Tryd.ntmps10
  go_wp2_with fail
  exact ⟨.tuple #[.slice none 0 0, .int .i64 0, .int .i64 20], by simp [results, Tryd.results10, go_sem], rfl, (by repeat (first | (with_reducible exact Below.refl _ _) | (with_reducible refine below_al ?_ _) | (with_reducible refine below_drewN ?_ _) | (with_reducible refine Below.drew ?_) | (with_reducible refine below_via (by assumption) ?_) | (with_reducible refine below_sc ?_ ?_ _; · (first | (simp; done) | (simp; omega) | omega))))⟩

set_option maxRecDepth 100000 in
set_option maxHeartbeats 4000000 in
theorem scan_c (s : ByteArray) (w : World) (ht : Tab w) (hs : s.size ≤ 65536) :
    Calls Tryd.prog 10 #[.string s] w (OutS (scanL 1000 s.size s.data.toList) w) := by
  have hT := hidF ht
  clear ht
  have hmf : ∀ (fn : Fn) (first cap : Array Value) (w : World), (Instr.makeFunc fn first cap).run Tryd.prog w = .ok (.func fn first cap) w := fun _ _ _ _ => rfl
  obtain ⟨R, hR⟩ : ∃ R, scanL 1000 s.size s.data.toList = R := ⟨_, rfl⟩
  rw [hR]
  go_enter_defers Tryd.func10, Tryd.ntmps10
  go_wp2_with fail
  go_loopw [] (fun wr => ∃ (p : Nat) (toks : List S34) (v : Value), p ≤ s.size ∧ toks.length ≤ 1000 ∧ Lp w.heap.size s w wr p toks v ∧ R = (scanL (1000 - toks.length) s.size (s.data.toList.drop p)).map (toks ++ ·)) (fun wr => 1000 - tokN wr w.heap.size)
  case atStart =>
    refine ⟨0, [], .slice none 0 0, by omega, by simp, ⟨⟨by simp [go_sem], by simp [go_sem], by simp [go_sem]⟩, (by repeat (first | (with_reducible exact Below.refl _ _) | (with_reducible refine below_al ?_ _) | (with_reducible refine below_drewN ?_ _) | (with_reducible refine Below.drew ?_) | (with_reducible refine below_via (by assumption) ?_) | (with_reducible refine below_sc ?_ ?_ _; · (first | (simp; done) | (simp; omega) | omega)))), by simp [go_sem], by simp [go_sem], by simp [go_sem], by simp [go_sem], by simp [go_sem], by simp [go_sem], Kd.R_nil _ _ _ _ _⟩, ?_⟩
    rw [← hR, List.drop_zero]
    show _ = Except.map _ (scanL 1000 _ _)
    cases scanL 1000 s.size s.data.toList <;> simp [Except.map]
  case round =>
    obtain ⟨p, toks, v, hp, hn, HL, he⟩ := hrel
    have HH := hidF HL
    have HE := hidF he
    clear HL he
    go_wp2_with (go_at_call 20; (refine (skip_c (w.heap.size + 1 + 1 + 1) s p w wr hT.out HH.out.below (by omega) hs HH.out.sc hp).mono ?_); rintro e w1 ⟨q, hq, hF, hS1, ⟨hsk, rfl⟩ | ⟨hsk, rfl⟩⟩ <;> (have H1 := hidF (HH.out.fr hF hS1)))
    rotate_left
    · skip
      have hl := H1.out.lt
      refine leaves_cons (f := 19) (args := #[.pointer (some ⟨w.heap.size, 0, none⟩), .pointer (some ⟨w.heap.size + 1, 0, none⟩), .pointer (some ⟨w.heap.size + 1 + 1, 0, none⟩)]) (by simp [fl]) (by simp [go_sem]) ?_
      refine (scan1_pan w.heap.size w.heap.size (w.heap.size + 1) (w.heap.size + 1 + 1) q _ v (.int .i64 0) (.int .i64 0) (Nat.le_refl _) (by omega) (by omega) (by omega) H1.out.c0 H1.out.c1 H1.out.c2 H1.out.f0 H1.out.f1 H1.out.f2).mono ?_
      rintro e u' w9 ⟨rfl, rfl, hb9, d0, d1, d2⟩
      exact ⟨.tuple #[.slice none 0 0, .int .i64 q, .int .i64 20], by simp [results, Tryd.results10, go_sem, d0, d1, d2], outS_err (scan_f hq hsk HE.out) rfl (H1.out.below.trans hb9)⟩
    · skip
      obtain ⟨A, c, rfl, htn⟩ := H1.out.len
      by_cases hqe : q = s.size
      · have hem : (dropB s q).toList.isEmpty = true := by
          rw [ByteArray.toList_eq, dropB_list, List.drop_of_length_le (by rw [← Lib.size_eq]; omega)]; rfl
        have HQ := hidF hqe
        clear hqe
        go_wp2_with (first | (go_at_call 21; (refine (rest_c (w.heap.size + 1 + 1 + 1) s q w1 H1.out.sc (by omega) (by omega)).mono ?_); rintro e w2 ⟨rfl, hb2⟩; have H2 := hidF (H1.out.bl hb2); have hl2 := H2.out.lt; have d0 := H2.out.c0; have d1 := H2.out.c1; have d2 := H2.out.c2; have g0 := H2.out.f0; have g1 := H2.out.f1; have g2 := H2.out.f2) | ((with_reducible refine gate_builtin (b := .append) (xs := #[.tmp 21, .tmp 25]) rfl ?_); at_builtin; go_loud (refine Kd.R_append k34 (w0 := w2) (w.heap.size + 4) rfl (.tmp 21) (.tmp 25) 23 34 (.agg #[(.int .i64 0), (.string ⟨#[]⟩), (.int .i64 0)]) 32 rfl Tryd.underlying23 inf34 rfl (by decide) (by omega) (.slice A toks.length c) toks ⟨0, ⟨#[]⟩, (s.size : Int)⟩ [.int .i64 0, .string ⟨#[]⟩, .int .i64 s.size] (fun k => w.heap.size + 4 ≤ k) (fun _ => False) rfl rfl ?aP (fun _ hk => hk.elim) ?aF ?aO ?aB ?aS ?aL ?_; (case aP => exact k34_mkM _ _ _ ⟨0, ⟨#[]⟩, (s.size : Int)⟩); (case aB => exact Below.refl _ _); (case aF => intro k hk; omega); (case aO => exact H2.out.row); (case aS => omega); (case aL => omega); intro v3 w3 ho hb hg hat; obtain ⟨A3, c3, rfl, hc3, hr3⟩ := Kd.R_reads ho; clear hg hat hr3; have hs3 := hb.size; have e0 := (hb.cell (p := ⟨w.heap.size, 0, none⟩) (by simp)).trans d0; have e1 := (hb.cell (p := ⟨w.heap.size + 1, 0, none⟩) (by simp)).trans d1; have e2 := (hb.cell (p := ⟨w.heap.size + 1 + 1, 0, none⟩) (by simp)).trans d2; have i0 := (hb.frozen (p := ⟨w.heap.size, 0, none⟩) (by simp)).trans g0; have i1 := (hb.frozen (p := ⟨w.heap.size + 1, 0, none⟩) (by simp)).trans g1; have i2 := (hb.frozen (p := ⟨w.heap.size + 1 + 1, 0, none⟩) (by simp)).trans g2; have HB3 := hidF hb; clear hb)))
        refine leaves_cons (f := 19) (args := #[.pointer (some ⟨w.heap.size, 0, none⟩), .pointer (some ⟨w.heap.size + 1, 0, none⟩), .pointer (some ⟨w.heap.size + 1 + 1, 0, none⟩)]) (by simp) (by simp [go_sem]) ?_
        refine (scan1_ret _ _ _ _).mono ?_
        rintro e u' w9 ⟨rfl, rfl, hb9⟩
        obtain ⟨hc9, hf9⟩ := bcell hb9
        have m0 : w9.cell? ⟨w.heap.size, 0, none⟩ = some (.slice A3 (toks ++ [(⟨0, ⟨#[]⟩, (s.size : Int)⟩ : S34)]).length c3) := by rw [hc9 _ _ (by simp; omega)]; simp [go_sem, e0, e1, e2]
        have m1 : w9.cell? ⟨w.heap.size + 1, 0, none⟩ = some (.int .i64 0) := by rw [hc9 _ _ (by simp; omega)]; simp [go_sem, e0, e1, e2]
        have m2 : w9.cell? ⟨w.heap.size + 1 + 1, 0, none⟩ = some (.int .i64 0) := by rw [hc9 _ _ (by simp; omega)]; simp [go_sem, e0, e1, e2]
        exact ⟨.tuple #[.slice A3 (toks ++ [(⟨0, ⟨#[]⟩, (s.size : Int)⟩ : S34)]).length c3, .int .i64 0, .int .i64 0], by simp [results, Tryd.results10, go_sem, m0, m1, m2], outS_ok (scan_e HQ.out hsk HE.out) rfl (rowS ho hb9) (((H2.out.below.trans (HB3.out.mono (by omega))).setCell (by simp) _ |>.setCell (by simp) _ |>.setCell (by simp; omega) _).trans (hb9.mono (by simp; omega)))⟩
      · have hem : (dropB s q).toList.isEmpty = false := by
          rw [ByteArray.toList_eq, dropB_list]
          have : (s.data.toList.drop q).length ≠ 0 := by rw [List.length_drop, ← Lib.size_eq]; omega
          cases hd : s.data.toList.drop q with
          | nil => rw [hd] at this; simp at this
          | cons a b => rfl
        by_cases h1000 : toks.length < 1000
        · have hdec : decide ((toks.length : Int) < 1000) = true := decide_eq_true (by omega)
          have cT : ∀ W, Tab W → Sc W (w.heap.size + 1 + 1 + 1) s q → Calls Tryd.prog 23 #[.pointer (some ⟨w.heap.size + 1 + 1 + 1, 0, none⟩)] W (OutT q (tokL (s.data.toList.drop q)) W) := fun W hW hS => token_c _ s q W hW hs hS (by omega)
          rcases hr : tokL (s.data.toList.drop q) with _ | ⟨k, x, m⟩
          · rw [hr] at cT
            go_wp2_with (first | (go_at_call 21; (refine (rest_c (w.heap.size + 1 + 1 + 1) s q w1 H1.out.sc (by omega) (by omega)).mono ?_); rintro e w2 ⟨rfl, hb2⟩; have H2 := hidF (H1.out.bl hb2); have hl2 := H2.out.lt; have d0 := H2.out.c0; have d1 := H2.out.c1; have d2 := H2.out.c2; have g0 := H2.out.f0; have g1 := H2.out.f1; have g2 := H2.out.f2) | (go_at_call 22; (refine (must_t (w.heap.size + 1 + 1 + 1) w2).mono ?_); rintro e w3 ⟨rfl, hb3⟩; have H3 := hidF (H2.out.bl hb3)) | (go_at_call 23; (refine (cT w3 (hT.out.below H3.out.below) H3.out.sc).mono ?_); rintro e w4 ⟨rfl, hb4⟩; have H4 := hidF (H3.out.bl hb4)))
            have hl := H4.out.lt
            refine leaves_cons (f := 19) (args := #[.pointer (some ⟨w.heap.size, 0, none⟩), .pointer (some ⟨w.heap.size + 1, 0, none⟩), .pointer (some ⟨w.heap.size + 1 + 1, 0, none⟩)]) (by simp [fl]) (by simp [go_sem]) ?_
            refine (scan1_pan w.heap.size w.heap.size (w.heap.size + 1) (w.heap.size + 1 + 1) q _ (.slice A toks.length c) (.int .i64 0) (.int .i64 0) (Nat.le_refl _) (by omega) (by omega) (by omega) H4.out.c0 H4.out.c1 H4.out.c2 H4.out.f0 H4.out.f1 H4.out.f2).mono ?_
            rintro e u' w9 ⟨rfl, rfl, hb9, e0, e1, e2⟩
            exact ⟨.tuple #[.slice none 0 0, .int .i64 q, .int .i64 20], by simp [results, Tryd.results10, go_sem, e0, e1, e2], outS_err (scan_n hq hqe hsk hr HE.out) rfl (H4.out.below.trans hb9)⟩
          · rw [hr] at cT
            go_wp2_with (first | (go_at_call 21; (refine (rest_c (w.heap.size + 1 + 1 + 1) s q w1 H1.out.sc (by omega) (by omega)).mono ?_); rintro e w2 ⟨rfl, hb2⟩; have H2 := hidF (H1.out.bl hb2); have hl2 := H2.out.lt; have d0 := H2.out.c0; have d1 := H2.out.c1; have d2 := H2.out.c2; have g0 := H2.out.f0; have g1 := H2.out.f1; have g2 := H2.out.f2) | (go_at_call 22; (refine (must_t (w.heap.size + 1 + 1 + 1) w2).mono ?_); rintro e w3 ⟨rfl, hb3⟩; have H3 := hidF (H2.out.bl hb3)) | (go_at_call 23; (refine (cT w3 (hT.out.below H3.out.below) H3.out.sc).mono ?_); rintro e w4 ⟨rfl, hb4⟩; have H4 := hidF (H3.out.bl hb4)))
            obtain ⟨hm1, hm2⟩ := tok_le hr
            rw [List.length_drop, ← Lib.size_eq] at hm2
            have c40 := H4.out.c0
            have f40 := H4.out.f0
            obtain ⟨s40, s41, s4f⟩ := H4.out.sc
            have hl4 := H4.out.lt
            clear d0 d1 d2 g0 g1 g2
            have d40 : w4.drew.cell? ⟨w.heap.size, 0, none⟩ = some (.slice A toks.length c) := c40
            have df40 : w4.drew.frozen? ⟨w.heap.size, 0, none⟩ = false := f40
            have d41 : w4.drew.cell? ⟨w.heap.size + 1 + 1 + 1, 1, none⟩ = some (.int .i64 q) := s41
            have d400 : w4.drew.cell? ⟨w.heap.size + 1 + 1 + 1, 0, none⟩ = some (.string s) := s40
            have d4f : w4.drew.frozen? ⟨w.heap.size + 1 + 1 + 1, 1, none⟩ = false := s4f
            have HRd := hidF (Kd.R_drew H4.out.row)
            have HLd := hidF (H4.out.bl (Below.refl _ _).drew)
            have hsd : w4.heap.size = w4.drew.heap.size := rfl
            refine wp_region_noPanic ?_
            refine start_ (n := 11) (S := fun w' => w'.cell? ⟨w.heap.size, 0, none⟩ = some (.slice A toks.length c) ∧ w'.cell? ⟨w.heap.size + 1 + 1 + 1, 1, none⟩ = some (.int .i64 q)) (ds := [10]) #[false, false, false, false, false, false, false, false, false, false, false] (by kernel_rfl) rfl rfl ⟨c40, s41⟩ (fun hHeld => ?_)
            generalize w4.drew = wd at *
            refine pure_ (i := 1) (N := some 39) (v := ?_) (a' := ?_) #[false, true, false, false, false, false, false, false, false, false, false] rfl rfl (by kernel_rfl) (fun _ _ _ h => h) (Or.inl ⟨by rfl, ?_⟩) ?_ ?_
            rotate_left
            · intro w'
              go_simp
              with_reducible rfl
            rotate_left
            · simp only [Act.put, List.setIfInBounds_toArray, List.set_cons_zero, List.set_cons_succ, i64_w, i32_w]
              rfl
            refine pure_ (i := 2) (N := some 40) (v := ?_) (a' := ?_) #[false, true, true, false, false, false, false, false, false, false, false] rfl rfl (by kernel_rfl) (fun _ _ _ h => h) (Or.inl ⟨by rfl, ?_⟩) ?_ ?_
            rotate_left
            · intro w'
              go_simp
              with_reducible rfl
            rotate_left
            · simp only [Act.put, List.setIfInBounds_toArray, List.set_cons_zero, List.set_cons_succ, i64_w, i32_w]
              rfl
            refine pure_ (i := 3) (N := some 41) (v := ?_) (a' := ?_) #[false, true, true, true, false, false, false, false, false, false, false] rfl rfl (by kernel_rfl) (fun _ _ _ h => h) (Or.inl ⟨by rfl, ?_⟩) ?_ ?_
            rotate_left
            · intro w'
              go_simp
              with_reducible rfl
            rotate_left
            · simp only [Act.put, List.setIfInBounds_toArray, List.set_cons_zero, List.set_cons_succ, i64_w, i32_w]
              rfl
            refine pure_ (i := 4) (N := some 42) (v := ?_) (a' := ?_) #[false, true, true, true, true, false, false, false, false, false, false] rfl rfl (by kernel_rfl) (fun _ _ _ h => h) (Or.inl ⟨by rfl, ?_⟩) ?_ ?_
            rotate_left
            · intro w'
              go_simp
              with_reducible rfl
            rotate_left
            · simp only [Act.put, List.setIfInBounds_toArray, List.set_cons_zero, List.set_cons_succ, i64_w, i32_w]
              rfl
            refine pure_ (i := 5) (N := some 43) (v := ?_) (a' := ?_) #[false, true, true, true, true, true, false, false, false, false, false] rfl rfl (by kernel_rfl) (fun _ _ _ h => h) (Or.inl ⟨by rfl, ?_⟩) ?_ ?_
            rotate_left
            · intro w'
              go_simp
              with_reducible rfl
            rotate_left
            · simp only [Act.put, List.setIfInBounds_toArray, List.set_cons_zero, List.set_cons_succ, i64_w, i32_w]
              rfl
            refine take_ (i := 0) (N := some 38) (v := ?_) (a' := ?_) #[true, true, true, true, true, true, false, false, false, false, false] rfl rfl (by kernel_rfl) (fun _ _ _ h => h) (Or.inl ⟨by rfl, ?_⟩) hHeld ?_ ?_
            rotate_left
            · rintro w' ⟨s0, s1⟩
              go_simp
              with_reducible rfl
            rotate_left
            · simp only [Act.put, List.setIfInBounds_toArray, List.set_cons_zero, List.set_cons_succ, i64_w, i32_w]
              rfl
            refine take_ (i := 6) (N := some 44) (v := ?_) (a' := ?_) #[true, true, true, true, true, true, true, false, false, false, false] rfl rfl (by kernel_rfl) (fun _ _ _ h => h) (Or.inl ⟨by rfl, ?_⟩) hHeld ?_ ?_
            rotate_left
            · rintro w' ⟨s0, s1⟩
              go_simp
              with_reducible rfl
            rotate_left
            · simp only [Act.put, List.setIfInBounds_toArray, List.set_cons_zero, List.set_cons_succ, i64_w, i32_w]
              rfl
            refine pure_ (i := 7) (N := some 45) (v := ?_) (a' := ?_) #[true, true, true, true, true, true, true, true, false, false, false] rfl rfl (by kernel_rfl) (fun _ _ _ h => h) (Or.inl ⟨by rfl, ?_⟩) ?_ ?_
            rotate_left
            · intro w'
              go_simp
              with_reducible rfl
            rotate_left
            · simp only [Act.put, List.setIfInBounds_toArray, List.set_cons_zero, List.set_cons_succ, i64_w, i32_w]
              rfl
            refine one_ (i := 8) (N := some 46) #[true, true, true, true, true, true, true, true, true, false, false] rfl rfl (by kernel_rfl) (by decide) (fun K hK => ?_)
            refine value_ (w1 := ?_) (v := ?_) (by rfl) rfl ?_ ?_
            rotate_left 2
            · go_simp
              constructor
              · rfl
              · rfl
            refine hK.out _ _ ⟨((below_box _ _).cell (p := ⟨w.heap.size, 0, none⟩) (show w.heap.size < wd.heap.size by omega)).trans hHeld.1, ((below_box _ _).cell (p := ⟨w.heap.size + 1 + 1 + 1, 1, none⟩) (show w.heap.size + 1 + 1 + 1 < wd.heap.size by omega)).trans hHeld.2⟩ (fun hHeld => ?_)
            clear hK K
            refine norm_ (a' := ?_) ?_ ?_
            rotate_left
            · show Act.put _ (some 46) _ = _
              simp only [Act.put, List.setIfInBounds_toArray, List.set_cons_zero, List.set_cons_succ, i64_w, i32_w]
              rfl
            refine one_ (i := 9) (N := some 47) #[true, true, true, true, true, true, true, true, true, true, false] rfl rfl (by kernel_rfl) (by decide) (fun K hK => ?_)
            refine Kd.R_append_step k34 (w0 := wd) (w.heap.size + 4) (by rfl) (.tmp 38) (.tmp 46) 23 34 (.agg #[(.int .i64 0), (.string ⟨#[]⟩), (.int .i64 0)]) 32 (by rfl) Tryd.underlying23 inf34 rfl (by decide) (by omega) (.slice A toks.length c) toks ⟨k, ⟨x.toArray⟩, (q : Int)⟩ [.int .i64 k, .string ⟨x.toArray⟩, .int .i64 q] (fun k => w.heap.size + 4 ≤ k) (fun _ => False) (by rfl) (by rfl) ?aP (fun _ hk => hk.elim) ?aF ?aO ?aB ?aS ?aL ?_
            case aP => exact k34_mkM _ _ _ ⟨k, ⟨x.toArray⟩, (q : Int)⟩
            case aB => exact Below.refl _ _
            case aF => intro k hk; omega
            case aO => exact HRd.out
            case aS => omega
            case aL => omega
            intro v5 w5 ho hb hg hat
            obtain ⟨A5, c5, rfl, hc5, hr5⟩ := Kd.R_reads ho
            clear hg hat hr5
            have t50 := (hb.cell (p := ⟨w.heap.size, 0, none⟩) (by simp)).trans d40
            have t5f := (hb.frozen (p := ⟨w.heap.size, 0, none⟩) (by simp)).trans df40
            have t51 := (hb.cell (p := ⟨w.heap.size + 1 + 1 + 1, 1, none⟩) (by simp)).trans d41
            have t52 := (hb.cell (p := ⟨w.heap.size + 1 + 1 + 1, 0, none⟩) (by simp)).trans d400
            have t53 := (hb.frozen (p := ⟨w.heap.size + 1 + 1 + 1, 1, none⟩) (by simp)).trans d4f
            have HR5 := hidF ho
            have HB5 := hidF hb
            clear ho hb
            refine hK.out _ _ ⟨t50, t51⟩ (fun hHeld => ?_)
            clear hK K
            refine norm_ (a' := ?_) ?_ ?_
            rotate_left
            · show Act.put _ (some 47) _ = _
              simp only [Act.put, List.setIfInBounds_toArray, List.set_cons_zero, List.set_cons_succ, i64_w, i32_w]
              rfl
            refine last_ (i := 10) (N := none) #[true, true, true, true, true, true, true, true, true, true, true] rfl rfl (by kernel_rfl) (by decide) (fun K hK => ?_)
            refine skip_ (w1 := ?_) (by rfl) rfl ?_ ?_
            rotate_left
            · go_simp
              rfl
            refine hK.out _ _ ?_
            clear hK K
            refine done_ (by kernel_rfl) ?_
            refine NoPanic.normal ?_
            go_wp2_with fail
            have LN := lp_next (r := q + m) (n := (q : Int) + (m : Int)) HLd.out HB5.out HR5.out (by omega)
            have el : (toks ++ [(⟨k, ⟨x.toArray⟩, (q : Int)⟩ : S34)]).length = toks.length + 1 := by simp
            have LM := LN.len
            rw [el] at LN
            have LT := HH.out.len
            go_roundw
            case rel => exact ⟨q + m, toks ++ [⟨k, ⟨x.toArray⟩, (q : Int)⟩], _, by omega, by simp; omega, LN, scan_t hq hqe hsk hr h1000 HE.out⟩
            case measure =>
              obtain ⟨A1, c1, e1, e2⟩ := LT
              obtain ⟨A2, c2, e3, e4⟩ := LM
              rw [e2]
              have e5 : tokN ((w5.setCell ⟨w.heap.size, 0, none⟩ (.slice A5 (toks.length + 1) c5)).setCell ⟨w.heap.size + 1 + 1 + 1, 1, none⟩ (.int .i64 ((q : Int) + (m : Int)))) w.heap.size = toks.length + 1 := by
                have := e4
                simp only [List.length_append, List.length_cons, List.length_nil] at this
                exact this
              rw [e5]; omega
        · have hdec : decide ((toks.length : Int) < 1000) = false := decide_eq_false (by omega)
          go_wp2_with (first | (go_at_call 21; (refine (rest_c (w.heap.size + 1 + 1 + 1) s q w1 H1.out.sc (by omega) (by omega)).mono ?_); rintro e w2 ⟨rfl, hb2⟩; have H2 := hidF (H1.out.bl hb2); have hl2 := H2.out.lt; have d0 := H2.out.c0; have d1 := H2.out.c1; have d2 := H2.out.c2; have g0 := H2.out.f0; have g1 := H2.out.f1; have g2 := H2.out.f2) | (go_at_call 22; (refine (must_f (w.heap.size + 1 + 1 + 1) s q w2 H2.out.sc).mono ?_); rintro e w3 ⟨rfl, hb3⟩; have H3 := hidF (H2.out.bl hb3)))
          have hl := H3.out.lt
          refine leaves_cons (f := 19) (args := #[.pointer (some ⟨w.heap.size, 0, none⟩), .pointer (some ⟨w.heap.size + 1, 0, none⟩), .pointer (some ⟨w.heap.size + 1 + 1, 0, none⟩)]) (by simp [fl]) (by simp [go_sem]) ?_
          refine (scan1_pan w.heap.size w.heap.size (w.heap.size + 1) (w.heap.size + 1 + 1) q _ (.slice A toks.length c) (.int .i64 0) (.int .i64 0) (Nat.le_refl _) (by omega) (by omega) (by omega) H3.out.c0 H3.out.c1 H3.out.c2 H3.out.f0 H3.out.f1 H3.out.f2).mono ?_
          rintro e u' w9 ⟨rfl, rfl, hb9, e0, e1, e2⟩
          exact ⟨.tuple #[.slice none 0 0, .int .i64 q, .int .i64 20], by simp [results, Tryd.results10, go_sem, e0, e1, e2], outS_err (scan_o hq hqe hsk h1000 HE.out) rfl (H3.out.below.trans hb9)⟩

end Go.Proofs.YtlaafpbhhnehgaaDoor
