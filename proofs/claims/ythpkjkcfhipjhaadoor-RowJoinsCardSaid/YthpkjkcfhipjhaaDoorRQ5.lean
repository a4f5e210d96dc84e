/- RowJoins, in plain words: rows put together, columns picked. -/
import Derived.Test.YthpkjkcfhipjhaaDoorRQP
import Derived.Test.YthpkjkcfhipjhaaDoorPRJx
namespace Go.Proofs.YthpkjkcfhipjhaaDoor
set_option linter.unusedVariables false
set_option linter.unusedSimpArgs false
open Go.RowKit Go.Proofs.YthpkjkcfhipjhaaDoorW.PrintWords Go.Proofs.YthpkjkcfhipjhaaDoorW.PrintLast PRW PRJ

theorem bs_app (a b : List UInt8) : bs a ++ bs b = bs (a ++ b) := by apply ByteArray.ext; simp [bs]

/-- picked columns are the row's own, and what is put into them does not touch the row -/
theorem joinl_ev (l : List S56) (cols : List Int) (T : ByteArray) (hc : cols.length ≤ 1024) (hT : ∃ e, xEncode.f l = some (T, e)) (ha : ∀ (i : Nat) (h : i < cols.length), inR l cols[i] = true) :
    ∀ d i : Nat, i + d = cols.length → ∀ p : List S56, p.length = cols.length → (∀ (j : Nat) (h : j < cols.length), i ≤ j → p[j]? = some (rd_T56 l cols[j])) →
    Ev (fun k => freshetlaw02_RowJoins.l0 k l cols T p (i : Int)) true := by
  intro d
  induction d with
  | zero =>
    intro i hi p hp hj
    obtain ⟨e, he⟩ := hT
    refine Ev.step (f := fun _ => some true) (fun k => ?_) (Ev.now _)
    simp only [freshetlaw02_RowJoins.l0]
    rw [if_neg (by omega), he, Option.bind_some, if_pos (by omega)]
    simp
  | succ d ih =>
    intro i hi p hp hj
    have h1 : i < cols.length := by omega
    have h2 : i < p.length := by omega
    have hb := rdI_at cols i h1
    have hin := (inR_iff _ _).1 (ha i h1)
    have hpi : rd_T56 p (i : Int) = rd_T56 l cols[i] := by
      have := hj i h1 (Nat.le_refl _)
      rw [rd_at p i h2]
      rw [List.getElem?_eq_getElem h2] at this
      exact Option.some.inj this
    have hn : neqS (rd_T56 p (i : Int)) (rd_T56 l cols[i]) = false := by rw [hpi]; exact neqS_self _
    refine Ev.step (fun k => ?_) (ih (i + 1) (by omega) (p.set i ⟨78, 0, 0, ⟨#[]⟩⟩) (by rw [List.length_set]; exact hp) (fun j h hij => by rw [List.getElem?_set_ne (by omega)]; exact hj j h (by omega)))
    simp only [freshetlaw02_RowJoins.l0]
    rw [if_pos (by omega), if_pos (by omega), hb, if_neg (by omega), if_neg (by omega), if_pos (by omega), if_pos hin.1, if_pos hin.2]
    unfold neqS at hn
    rw [hn, if_neg Bool.false_ne_true, w64k (by omega) (by omega)]
    rfl

theorem sound_app {l m : List S56} (h1 : soundL l = true) (h2 : soundL m = true) (hl : l.length ≤ 400) (hm : m.length ≤ 400) : soundL (l ++ m) = true := by
  unfold soundL at *
  rw [Bool.and_eq_true] at *
  refine ⟨by rw [decide_eq_true_eq, List.length_append]; omega, ?_⟩
  rw [List.all_append, h1.2, h2.2]; rfl

theorem joins_ev (l0 l1 : List S56) (l2 : List Int) (h0 : rngL l0 = true) (h1 : rngL l1 = true) : Ev (fun k => freshetlaw02_RowJoins.f k l0 l1 l2) true := by
  have hE0 : xEncode.f l0 = some (encP l0) := by unfold xEncode.f; rw [if_pos h0]
  have hE1 : xEncode.f l1 = some (encP l1) := by unfold xEncode.f; rw [if_pos h1]
  have J0 : ∀ x y : ByteArray, Ev (fun k => freshetlaw02_RowJoins.j0 k l0 l1 l2 x y true) true := by
    intro x y
    refine Ev.step (f := fun _ => some true) (fun k => ?_) (Ev.now _)
    simp only [freshetlaw02_RowJoins.j0, if_true]
  cases hs0 : soundL l0
  · have hp : encP l0 = (⟨#[]⟩, 1) := by unfold encP; rw [hs0]; rfl
    refine Ev.congr (fun k => ?_) (J0 ⟨#[]⟩ (encP l1).1)
    simp only [freshetlaw02_RowJoins.f, xAwake2.f, Option.bind_some]
    rw [if_pos trivial, hE0, Option.bind_some, hE1, Option.bind_some, hp]
    simp only
    rw [if_neg (by decide)]
  · cases hs1 : soundL l1
    · have hp : encP l1 = (⟨#[]⟩, 1) := by unfold encP; rw [hs1]; rfl
      have hq : encP l0 = (bs (encR (l0.map toV)), 0) := by unfold encP; rw [hs0]; rfl
      refine Ev.congr (fun k => ?_) (J0 (bs (encR (l0.map toV))) ⟨#[]⟩)
      simp only [freshetlaw02_RowJoins.f, xAwake2.f, Option.bind_some]
      rw [if_pos trivial, hE0, Option.bind_some, hE1, Option.bind_some, hp, hq]
      simp only
      rw [if_pos trivial]; rfl
    · have o0 := sound_all hs0 h0
      have o1 := sound_all hs1 h1
      have hp : encP l0 = (bs (encR (l0.map toV)), 0) := by unfold encP; rw [hs0]; rfl
      have hq : encP l1 = (bs (encR (l1.map toV)), 0) := by unfold encP; rw [hs1]; rfl
      have n0 := encR_len (l0.map toV) (fun y hy => (o0.1 y hy).1)
      have n1 := encR_len (l1.map toV) (fun y hy => (o1.1 y hy).1)
      rw [List.length_map] at n0 n1
      have m0 := o0.2
      have m1 := o1.2
      by_cases g0 : l0.length ≤ 400
      · by_cases g1 : l1.length ≤ 400
        · have hs := sound_app hs0 hs1 g0 g1
          have hr : rngL (l0 ++ l1) = true := by unfold rngL at *; rw [List.all_append, h0, h1]; rfl
          have hE : xEncode.f (l0 ++ l1) = some (bs (encR (l0.map toV)) ++ bs (encR (l1.map toV)), 0) := by
            unfold xEncode.f encP
            rw [if_pos hr, hs, if_pos rfl, List.map_append, enc_app, bs_app]
          have J1 : Ev (fun k => freshetlaw02_RowJoins.j1 k l0 l2 (bs (encR (l0.map toV))) false) true := by
            have hpk := pick_ev l0 l2 h0
            refine Ev.step (f := fun k => (row_Pick.f k l0 l2).bind fun bt125 => (if bt125.2 = 0 then freshetlaw02_RowJoins.l0 k l0 l2 (bs (encR (l0.map toV))) bt125.1 0 else some ((bt125.1.length : Int) == 0))) (fun k => ?_) (Ev.bind hpk ?_)
            · simp only [freshetlaw02_RowJoins.j1]
              rw [if_neg Bool.false_ne_true]
            · unfold pickP
              by_cases hc : l2.length ≤ 1024
              · rw [hs0, decide_eq_true hc]
                simp only [Bool.and_self, if_true]
                unfold pickC
                by_cases ha : l2.all (inR l0) = true
                · rw [if_pos ha]
                  simp only [if_true]
                  exact joinl_ev l0 l2 _ hc ⟨0, by rw [hE0, hp]⟩ (fun i h => List.all_eq_true.1 ha _ (List.getElem_mem h)) l2.length 0 (by omega) _ (by rw [List.length_map]) (fun j h _ => by rw [List.getElem?_map, List.getElem?_eq_getElem h]; rfl)
                · rw [if_neg ha]
                  exact Ev.now _
              · rw [hs0, decide_eq_false hc]
                exact Ev.now _
          refine Ev.congr (f := fun k => freshetlaw02_RowJoins.j0 k l0 l1 l2 (bs (encR (l0.map toV))) (bs (encR (l1.map toV))) false) (fun k => ?_) (Ev.step (fun k => ?_) J1)
          · simp only [freshetlaw02_RowJoins.f, xAwake2.f, Option.bind_some]
            rw [if_pos trivial, hE0, Option.bind_some, hE1, Option.bind_some, hp, hq]
            simp only
            rw [if_pos trivial, if_pos trivial, if_neg (by omega), decide_eq_false (by omega)]
          · have e1 : wrap64 ((l0.length : Int) + (l1.length : Int)) = ((l0.length + l1.length : Nat) : Int) := by rw [w64k (by omega) (by omega)]; omega
            have e2 : wrap64 (((l0.length + l1.length : Nat) : Int) + 1) = ((l0.length + l1.length + 1 : Nat) : Int) := by rw [w64k (by omega) (by omega)]; omega
            have e3 : (([] ++ l0 ++ l1 ++ [(⟨77, 0, 0, ⟨#[]⟩⟩ : S56)]).take ((l0.length + l1.length : Nat) : Int).toNat) = l0 ++ l1 := by
              rw [List.nil_append, Int.toNat_natCast, List.take_append_of_le_length (by rw [List.length_append]; omega), List.take_of_length_le (by rw [List.length_append]; omega)]
            have e4 : rd_T56 ([] ++ l0 ++ l1 ++ [(⟨77, 0, 0, ⟨#[]⟩⟩ : S56)]) ((l0.length + l1.length : Nat) : Int) = ⟨77, 0, 0, ⟨#[]⟩⟩ := by
              rw [rd_at _ _ (by simp)]
              simp [List.getElem_append]
            simp only [freshetlaw02_RowJoins.j0]
            rw [if_neg Bool.false_ne_true, e1, e2]
            simp only [Option.bind_some]
            rw [if_pos (by omega), if_pos (by omega), if_pos (by simp; omega), if_pos (by simp; omega), if_pos (by simp; omega), if_pos (by omega), if_pos (by simp; omega), e3, hE]
            simp only [Option.bind_some]
            rw [if_pos trivial, if_pos (by rw [bs_size, bs_size]; omega), if_pos trivial, if_pos (by simp; omega), e4]
            rfl
        · refine Ev.congr (fun k => ?_) (J0 (bs (encR (l0.map toV))) (bs (encR (l1.map toV))))
          simp only [freshetlaw02_RowJoins.f, xAwake2.f, Option.bind_some]
          rw [if_pos trivial, hE0, Option.bind_some, hE1, Option.bind_some, hp, hq]
          simp only
          rw [if_pos trivial, if_pos trivial, if_neg (by omega), decide_eq_true (by omega)]
      · refine Ev.congr (fun k => ?_) (J0 (bs (encR (l0.map toV))) (bs (encR (l1.map toV))))
        simp only [freshetlaw02_RowJoins.f, xAwake2.f, Option.bind_some]
        rw [if_pos trivial, hE0, Option.bind_some, hE1, Option.bind_some, hp, hq]
        simp only
        rw [if_pos trivial, if_pos trivial, if_pos (by omega)]

theorem walkRowJoins (w : World) (A0 : Option Addr) (c0 : Nat) (L0 : List S56) (hc0 : L0.length ≤ c0) (hr0 : Kd.C k56 w A0 L0.length L0) (hg0 : rngL L0 = true) (A1 : Option Addr) (c1 : Nat) (L1 : List S56) (hc1 : L1.length ≤ c1) (hr1 : Kd.C k56 w A1 L1.length L1) (hg1 : rngL L1 = true)
    (A2 : Option Addr) (c2 : Nat) (L2 : List Int) (hc2 : L2.length ≤ c2) (hr2 : Kd.C (Kd.int .i64) w A2 L2.length L2) (hg2 : ∀ x ∈ L2, I64 x) (ht : RTab w) :
    Calls Tryd.prog 9 #[.slice A0 L0.length c0, .slice A1 L1.length c1, .slice A2 L2.length c2] w fun e w' => e = .returned (.bool true) ∧ Below w.heap.size w w' := by
  obtain ⟨k, hk⟩ := (joins_ev L0 L1 L2 hg0 hg1).rounds
  exact freshetlaw02_RowJoins.calls k A0 c0 L0 A1 c1 L1 A2 c2 L2 true w hr0 hc0 hr1 hc1 hr2 hc2 ht hk

end Go.Proofs.YthpkjkcfhipjhaaDoor
