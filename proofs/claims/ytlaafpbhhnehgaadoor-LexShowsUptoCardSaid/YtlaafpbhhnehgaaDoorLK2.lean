/- Plain: every token that is read can be read again; tokens with blanks between. -/
import Derived.Test.YtlaafpbhhnehgaaDoorLK1
namespace Go.Proofs.YtlaafpbhhnehgaaDoor
set_option linter.unusedVariables false
set_option linter.unusedSimpArgs false
open Go.RowKit Go.Proofs.YtlaafpbhhnehgaaDoorW.PrintWords Go.Proofs.YtlaafpbhhnehgaaDoorW.PrintLast PLX

theorem inn_low (c : UInt8) (h : isInn c.toNat = true) : okB (Lib.lowerB c) = true ∧ Lib.lowerB c ≠ 64 := by
  have : ∀ n : Fin 256, isInn (n.1 : Int) = true → okB (Lib.lowerB (UInt8.ofNat n.1)) = true ∧ Lib.lowerB (UInt8.ofNat n.1) ≠ 64 := by decide +kernel
  have h2 := this ⟨c.toNat, c.toNat_lt⟩ h
  simpa using h2

theorem dropWhile_idem (p : UInt8 → Bool) : ∀ l : List UInt8, (l.dropWhile p).dropWhile p = l.dropWhile p
  | [] => rfl
  | c :: t => by
    by_cases h : p c = true
    · rw [List.dropWhile_cons_of_pos h]; exact dropWhile_idem p t
    · rw [List.dropWhile_cons_of_neg h, List.dropWhile_cons_of_neg h]

theorem rd_sign (w : List UInt8) (h : w ∈ [[60, 62], [60, 61], [62, 61], [124, 124], [40], [41], [44], [46], [59], [42], [43], [45], [47], [37], [61], [60], [62]]) : Rd w 6 w := by
  simp only [List.mem_cons, List.not_mem_nil, or_false] at h
  rcases h with rfl | rfl | rfl | rfl | rfl | rfl | rfl | rfl | rfl | rfl | rfl | rfl | rfl | rfl | rfl | rfl | rfl <;>
    exact ⟨by simp, fun r hr => by rcases hr with rfl | ⟨u, rfl⟩ <;> rfl, fun r hr => by rcases hr with rfl | ⟨u, rfl⟩ <;> rfl⟩

theorem sign_mem (c : UInt8) (h : 0 ≤ Lib.indexByte signsL c) : [c] ∈ [[60, 62], [60, 61], [62, 61], [124, 124], [40], [41], [44], [46], [59], [42], [43], [45], [47], [37], [61], [60], [62]] := by
  have : ∀ n : Fin 256, 0 ≤ Lib.indexByte signsL (UInt8.ofNat n.1) → [UInt8.ofNat n.1] ∈ ([[60, 62], [60, 61], [62, 61], [124, 124], [40], [41], [44], [46], [59], [42], [43], [45], [47], [37], [61], [60], [62]] : List (List UInt8)) := by decide +kernel
  have h2 := this ⟨c.toNat, c.toNat_lt⟩ (by simpa using h)
  simpa using h2

theorem get_run (p : Int → Bool) (l : List UInt8) : ∀ b ∈ l.take (runL p l), p b.toNat = true := fun b hb => runL_all p l b hb

theorem rd_of_tok {l : List UInt8} {k : Int} {x : List UInt8} {m : Nat} (h : tokL l = some (k, x, m)) : Rd (tokW k x) k x := by
  have W1 : ∀ y, tokW 1 y = (nameW y).1 := fun _ => rfl
  have W2 : ∀ y, tokW 2 y = y := fun _ => rfl
  have W3 : ∀ y, tokW 3 y = y := fun _ => rfl
  have W4 : ∀ y, tokW 4 y = y := fun _ => rfl
  have W5 : ∀ y, tokW 5 y = quoteL 39 y := fun _ => rfl
  have W6 : ∀ y, tokW 6 y = y := fun _ => rfl
  match l, h with
  | c :: t, h =>
    rw [tokL] at h
    by_cases h1 : isLet c.toNat = true
    · rw [if_pos h1] at h
      have hi : isInn c.toNat = true := by simp [isInn, h1]
      have hr := run_pos (t := t) hi
      have hall := get_run isInn (c :: t)
      have hle := runL_le isInn (c :: t)
      unfold wordT at h
      generalize runL isInn (c :: t) = n at *
      split at h
      · rename_i hw
        simp only [Option.some.injEq, Prod.mk.injEq] at h
        obtain ⟨rfl, rfl, rfl⟩ := h
        rw [W2]; exact rd_word hw
      · split at h
        · rename_i hn
          simp only [Option.some.injEq, Prod.mk.injEq] at h
          obtain ⟨rfl, rfl, rfl⟩ := h
          rw [W1]
          refine rd_name ?_
          obtain ⟨j, rfl⟩ : ∃ j, n = j + 1 := ⟨n - 1, by omega⟩
          have hlen : (Lib.toLowerA ((c :: t).take (j + 1))).length = j + 1 := by
            simp only [Lib.toLowerA, List.length_map, List.length_take]; omega
          have hok : (Lib.toLowerA ((c :: t).take (j + 1))).all okB = true := by
            rw [List.all_eq_true]
            intro b hb
            obtain ⟨a, ha, rfl⟩ := List.mem_map.1 hb
            exact (inn_low a (hall a ha)).1
          have hhd : ((Lib.toLowerA ((c :: t).take (j + 1))).head? != some 64) = true := by
            have := (inn_low c hi).2
            simp [Lib.toLowerA, this]
          unfold nameP
          rw [hlen, hok, hhd, decide_eq_true (by omega : 1 ≤ j + 1), decide_eq_true hn]; rfl
        · cases h
    · rw [if_neg h1] at h
      by_cases h2 : isDig c.toNat = true
      · rw [if_pos h2] at h
        have hr := run_pos (t := t) h2
        have hall := get_run isDig (c :: t)
        have hle := runL_le isDig (c :: t)
        unfold numT at h
        split at h
        · rename_i hd
          split at h
          · rename_i h16
            simp only [Option.some.injEq, Prod.mk.injEq] at h
            obtain ⟨rfl, rfl, rfl⟩ := h
            rw [W4]
            have hall2 := get_run isDig ((c :: t).drop (runL isDig (c :: t) + 1))
            have hle2 := runL_le isDig ((c :: t).drop (runL isDig (c :: t) + 1))
            generalize hn : runL isDig (c :: t) = n at *
            unfold dotD at hd
            match hq : (c :: t).drop n with
            | [] => rw [hq] at hd; cases hd
            | [a] => rw [hq] at hd; cases hd
            | a :: b :: u =>
              rw [hq] at hd
              simp only [Bool.and_eq_true, beq_iff_eq] at hd
              obtain ⟨rfl, hb⟩ := hd
              have hd1 : (c :: t).drop (n + 1) = b :: u := by rw [← List.drop_drop, hq]; rfl
              rw [hd1] at hall2 hle2 h16 ⊢
              have hb1 := run_pos (t := u) hb
              generalize runL isDig (b :: u) = m2 at *
              have hsplit : (c :: t).take (n + 1 + m2) = (c :: t).take n ++ 46 :: (b :: u).take m2 := by
                have : c :: t = (c :: t).take n ++ 46 :: b :: u := by rw [← hq, List.take_append_drop]
                conv => lhs; rw [this]
                have hl : ((c :: t).take n).length = n := by rw [List.length_take]; omega
                rw [show n + 1 + m2 = ((c :: t).take n).length + (m2 + 1) by omega, List.take_length_add_append, List.take_succ_cons]
              rw [hsplit]
              have hlA : ((c :: t).take n).length = n := by rw [List.length_take]; omega
              have hlB : ((b :: u).take m2).length = m2 := by rw [List.length_take]; omega
              exact rd_dec hall hall2 (fun e => by have := congrArg List.length e; rw [hlA] at this; simp at this; omega) (fun e => by have := congrArg List.length e; rw [hlB] at this; simp at this; omega) (by omega)
          · cases h
        · split at h
          · rename_i hok
            simp only [Option.some.injEq, Prod.mk.injEq] at h
            obtain ⟨rfl, rfl, rfl⟩ := h
            rw [W3]
            generalize hn : runL isDig (c :: t) = n at *
            obtain ⟨j, rfl⟩ : ∃ j, n = j + 1 := ⟨n - 1, by omega⟩
            have hj : j < (c :: t).length := by omega
            have hdj : ((c :: t).drop j).take 1 = [(c :: t)[j]] := by rw [List.drop_eq_getElem_cons hj]; rfl
            have hbn : bareN (c :: t) (j + 1) = Lib.trimLeftB ((c :: t).take j) 48 ++ [(c :: t)[j]] := by
              unfold bareN; rw [show j + 1 - 1 = j by omega, hdj]
            rw [hbn] at hok ⊢
            have hmem : ∀ b ∈ (c :: t).take j, b ∈ (c :: t).take (j + 1) := fun b hb => by
              rw [List.take_succ_eq_append_getElem hj]; exact List.mem_append_left _ hb
            refine rd_int (fun b hb => ?_) ?_ (dropWhile_idem _ _) hok
            · exact hall b (hmem b (List.Sublist.mem hb (List.dropWhile_sublist _)))
            · exact hall _ (by rw [List.take_succ_eq_append_getElem hj]; exact List.mem_append_right _ (List.mem_singleton.2 rfl))
          · cases h
      · rw [if_neg h2] at h
        by_cases h3 : c = 34
        · rw [if_pos h3] at h
          cases hb : betL 34 t with
          | none => rw [hb] at h; simp [nameT] at h
          | some r =>
            rw [hb] at h
            simp only [nameT] at h
            split at h
            · rename_i hn
              simp only [Option.some.injEq, Prod.mk.injEq] at h
              obtain ⟨rfl, rfl, rfl⟩ := h
              rw [W1]; exact rd_name (by rw [← nameL_eq]; exact hn)
            · cases h
        · rw [if_neg h3] at h
          by_cases h4 : c = 39
          · rw [if_pos h4] at h
            cases hb : betL 39 t with
            | none => rw [hb] at h; simp [textT] at h
            | some r =>
              rw [hb] at h
              simp only [textT] at h
              split at h
              · rename_i hn
                simp only [Option.some.injEq, Prod.mk.injEq] at h
                obtain ⟨rfl, rfl, rfl⟩ := h
                rw [W5]; exact rd_text hn
              · cases h
          · rw [if_neg h4] at h
            unfold signT at h
            split at h
            · simp only [Option.some.injEq, Prod.mk.injEq] at h; obtain ⟨rfl, rfl, rfl⟩ := h
              rw [W6]; exact rd_sign _ (by decide)
            · split at h
              · simp only [Option.some.injEq, Prod.mk.injEq] at h; obtain ⟨rfl, rfl, rfl⟩ := h
                rw [W6]; exact rd_sign _ (by decide)
              · split at h
                · simp only [Option.some.injEq, Prod.mk.injEq] at h; obtain ⟨rfl, rfl, rfl⟩ := h
                  rw [W6]; exact rd_sign _ (by decide)
                · split at h
                  · simp only [Option.some.injEq, Prod.mk.injEq] at h; obtain ⟨rfl, rfl, rfl⟩ := h
                    rw [W6]; exact rd_sign _ (by decide)
                  · split at h
                    · rename_i hix
                      simp only [Option.some.injEq, Prod.mk.injEq] at h; obtain ⟨rfl, rfl, rfl⟩ := h
                      rw [W6]; exact rd_sign _ (sign_mem c hix)
                    · cases h

/-- tokens with blanks between -/
def joinW : List (List UInt8) → List UInt8
  | [] => []
  | [w] => w
  | w :: v :: r => w ++ 32 :: joinW (v :: r)

theorem scan_sp (d sz : Nat) (l : List UInt8) : scanL d sz (32 :: l) = scanL d sz l := by
  have h := skip_sp 32 l (by decide)
  cases d <;> (unfold scanL; rw [h])

theorem scan_join (sz : Nat) : ∀ (body : List S34) (d : Nat), body.length ≤ d → (∀ t ∈ body, Rd (tokW t.f0 t.f1.data.toList) t.f0 t.f1.data.toList) →
    ∃ m : List S34, scanL d sz (joinW (body.map fun t => tokW t.f0 t.f1.data.toList)) = .ok m ∧ m.map (fun t => (t.f0, t.f1)) = body.map (fun t => (t.f0, t.f1)) ++ [(0, ⟨#[]⟩)]
  | [], d, _, _ => by
    refine ⟨[⟨0, ⟨#[]⟩, sz⟩], ?_, rfl⟩
    exact scan_done rfl
  | t :: r, d, hd, hR => by
    obtain ⟨e, rfl⟩ : ∃ e, d = e + 1 := ⟨d - 1, by simp at hd; omega⟩
    obtain ⟨h1, h2, h3⟩ := hR t (List.mem_cons_self ..)
    obtain ⟨m, hm1, hm2⟩ := scan_join sz r e (by simp at hd; omega) (fun u hu => hR u (List.mem_cons_of_mem _ hu))
    obtain ⟨w, hw⟩ : ∃ w, tokW t.f0 t.f1.data.toList = w := ⟨_, rfl⟩
    rw [hw] at h1 h2 h3
    obtain ⟨R, hR1, hR2, hR3⟩ : ∃ R, Cont R ∧ joinW ((t :: r).map fun t => tokW t.f0 t.f1.data.toList) = w ++ R ∧ scanL e sz R = .ok m := by
      cases r with
      | nil => exact ⟨[], .inl rfl, by simp [joinW, hw], hm1⟩
      | cons v q => exact ⟨32 :: joinW ((v :: q).map fun t => tokW t.f0 t.f1.data.toList), .inr ⟨_, rfl⟩, by simp only [List.map_cons, joinW, hw], by rw [scan_sp]; exact hm1⟩
    have hne : w ++ R ≠ [] := by
      intro h; exact h1 (List.append_eq_nil_iff.1 h).1
    refine ⟨⟨t.f0, t.f1, ((sz - (w ++ R).length : Nat) : Int)⟩ :: m, ?_, by rw [List.map_cons, List.map_cons, hm2]; rfl⟩
    rw [hR2]
    unfold scanL
    rw [h2 R hR1]
    simp only [Bool.true_eq_false, if_false, if_neg hne, h3 R hR1, List.drop_left, hR3]
    rfl

end Go.Proofs.YtlaafpbhhnehgaaDoor
