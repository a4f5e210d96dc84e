/- RowBack, in plain words. -/
import Derived.Test.YthpkjkcfhipjhaaDoorRQ1
import Derived.Test.YthpkjkcfhipjhaaDoorPRKx
namespace Go.Proofs.YthpkjkcfhipjhaaDoor
set_option linter.unusedVariables false
set_option linter.unusedSimpArgs false
open Go.RowKit Go.Proofs.YthpkjkcfhipjhaaDoorW.PrintWords Go.Proofs.YthpkjkcfhipjhaaDoorW.PrintLast PRW PRK

theorem extract_bs (l : List UInt8) (k : Nat) : (bs l).extract 0 k = bs (l.take k) := by rw [bs_extract]; rfl

theorem back_ev (l0 : List S56) (a1 : ByteArray) (a2 : Int) (hr : rngL l0 = true) (h1 : a1.size ≤ 140737488355327) : Ev (fun k => freshetlaw02_RowBack.f k l0 a1 a2) true := by
  have J1 : Ev (fun k => freshetlaw02_RowBack.j1 k a1) true := by
    have hd : xDecode.f a1 = some (decP a1) := by unfold xDecode.f; rw [if_pos h1]
    cases hb : decB a1.data.toList with
    | ok b =>
      obtain ⟨e1, e2, e3⟩ := enc_dec hb
      obtain ⟨s1, s2⟩ := sound_of e2 e3
      have hp : decP a1 = (b.map ofV, 0) := by unfold decP; rw [hb]
      have he : xEncode.f (b.map ofV) = some (a1, 0) := by
        unfold xEncode.f encP
        rw [if_pos s2, s1, if_pos rfl, map_toV_ofV, e1]; rfl
      have hs : xRowSound.f (b.map ofV) = some true := by unfold xRowSound.f; rw [if_pos s2, s1]
      refine Ev.step (f := fun _ => some true) (fun k => ?_) (Ev.now _)
      simp only [freshetlaw02_RowBack.j1]
      rw [hd, Option.bind_some, hp]
      simp only
      rw [if_pos trivial, he, Option.bind_some]
      simp only
      rw [if_pos trivial, if_pos trivial, hs, Option.bind_some]
    | error c =>
      have hc := dec_err _ _ _ _ (by omega) hb
      have hp : decP a1 = ([], c) := by unfold decP; rw [hb]
      refine Ev.step (f := fun _ => some true) (fun k => ?_) (Ev.now _)
      simp only [freshetlaw02_RowBack.j1]
      rw [hd, Option.bind_some, hp]
      simp only
      rw [if_neg (by omega)]; rfl
  have hE : xEncode.f l0 = some (encP l0) := by unfold xEncode.f; rw [if_pos hr]
  have hS : xRowSound.f l0 = some (soundL l0) := by unfold xRowSound.f; rw [if_pos hr]
  cases hs : soundL l0
  · have hp : encP l0 = (⟨#[]⟩, 1) := by unfold encP; rw [hs]; rfl
    refine Ev.congr (fun k => ?_) J1
    simp only [freshetlaw02_RowBack.f, xAwake2.f, Option.bind_some]
    rw [if_pos trivial, hE, Option.bind_some, hp, hS, Option.bind_some, hs]
    simp only
    rw [if_neg (by decide), if_neg (by decide), if_pos (by rw [ByteArray.toList_eq])]
  · obtain ⟨ok, hl⟩ := sound_all hs hr
    obtain ⟨E, hEe⟩ : ∃ E, encR (l0.map toV) = E := ⟨_, rfl⟩
    have hElen : E.length ≤ 8391680 := by
      have := encR_len (l0.map toV) (fun y hy => (ok y hy).1)
      rw [hEe, List.length_map] at this; omega
    have hp : encP l0 = (bs E, 0) := by unfold encP; rw [hs, hEe]; rfl
    have hdE : decB E = .ok (l0.map toV) := by rw [← hEe]; exact dec_enc _ ok (by rw [List.length_map]; exact hl)
    have hdx : xDecode.f (bs E) = some (l0, 0) := by
      unfold xDecode.f decP
      rw [if_pos (by rw [bs_size]; omega), bs_list, hdE]
      simp only
      rw [map_ofV_toV]
    have J0 : Ev (fun k => freshetlaw02_RowBack.j0 k l0 a1 a2 (bs E) false) true := by
      by_cases hE0 : E = []
      · refine Ev.step (fun k => ?_) J1
        simp only [freshetlaw02_RowBack.j0]
        rw [if_neg Bool.false_ne_true, if_neg (by rw [bs_size, hE0]; decide)]
      · have hpos : 0 < E.length := List.length_pos_iff.2 hE0
        have hw : IntKind.u64.wrap (((bs E).size : Nat) : Int) = (E.length : Int) := by rw [bs_size, IntKind.wrap_u64]; omega
        obtain ⟨u, hu⟩ : ∃ u : Nat, IntKind.u64.wrap a2 = (u : Int) := ⟨(IntKind.u64.wrap a2).toNat, by rw [IntKind.wrap_u64]; omega⟩
        have hk : wrap64 (Int.tmod (IntKind.u64.wrap a2) (IntKind.u64.wrap (((bs E).size : Nat) : Int))) = ((u % E.length : Nat) : Int) := by
          have ht : Int.tmod (u : Int) (E.length : Int) = ((u % E.length : Nat) : Int) := rfl
          rw [hw, hu, ht]
          have := Nat.mod_lt u hpos
          rw [w64k (by omega) (by omega)]
        have hkl := Nat.mod_lt u hpos
        obtain ⟨q, hq⟩ : ∃ q, u % E.length = q := ⟨_, rfl⟩
        rw [hq] at hk hkl
        have hsplit : encR (l0.map toV) = E.take q ++ E.drop q := by rw [hEe, List.take_append_drop]
        have hdq : E.drop q ≠ [] := by
          intro h
          have := congrArg List.length h
          rw [List.length_drop] at this; simp at this; omega
        have hcut := decR_cut (l0.map toV) [] ((E.take q).length + 1) (E.take q) (E.drop q) ok (by simpa using hl) (by omega) hsplit hdq
        have hdc : xDecode.f ((bs E).extract 0 q) = some (match decB (E.take q) with | .ok l => (l.map ofV, 0) | .error c => ([], c)) := by
          rw [extract_bs]
          unfold xDecode.f decP
          rw [if_pos (by rw [bs_size, List.length_take]; omega), bs_list]
          cases decB (E.take q) <;> rfl
        have H0 : ∀ k, freshetlaw02_RowBack.j0 (k + 1) l0 a1 a2 (bs E) false = (xDecode.f ((bs E).extract 0 q)).bind fun bt110 => (if bt110.2 = 0 then (if (bt110.1.length : Int) ≥ (l0.length : Int) then (some false) else (if 0 ≤ (bt110.1.length : Int) then (if (bt110.1.length : Int) ≤ (l0.length : Int) then ((freshetref02_Same.f k bt110.1 (l0.take ((bt110.1.length : Int) : Int).toNat)).bind fun t118 => (if t118 = true then (freshetlaw02_RowBack.j1 k a1) else (some false))) else (none)) else (none))) else (if bt110.2 = 3 then (freshetlaw02_RowBack.j1 k a1) else (some false))) := by
          intro k
          simp only [freshetlaw02_RowBack.j0]
          rw [if_neg Bool.false_ne_true, hk, if_pos (by rw [bs_size]; omega), if_neg (by rw [hw]; omega), if_pos (by omega), if_pos (by rw [bs_size]; omega)]
          rfl
        rcases hcut with hc | ⟨m, n, e1, e2, e3⟩
        · refine Ev.step (fun k => ?_) J1
          rw [H0, hdc]
          have : decB (E.take q) = .error 3 := hc
          rw [this]
          simp only [Option.bind_some]
          rw [if_neg (by decide), if_pos trivial]
        · have h3 : decB (E.take q) = .ok m := by simpa [decB] using e3
          have hml : m.length < l0.length := by
            have := congrArg List.length e1
            rw [List.length_map, List.length_append] at this
            have : 0 < n.length := List.length_pos_iff.2 e2
            omega
          have htk : l0.take m.length = m.map ofV := by
            have h4 := congrArg (fun z => (z.map ofV).take m.length) e1
            (try simp only at h4)
            rw [map_ofV_toV, List.map_append, List.take_append_of_le_length (by simp), List.take_of_length_le (l := m.map ofV) (by simp)] at h4
            exact h4
          have hsm := same_ev (m.map ofV) (m.map ofV) (by rw [List.length_map]; omega)
          rw [decide_eq_true rfl] at hsm
          refine Ev.step (f := fun k => (freshetref02_Same.f k (m.map ofV) (m.map ofV)).bind fun t118 => (if t118 = true then (freshetlaw02_RowBack.j1 k a1) else (some false))) (fun k => ?_) (Ev.bind hsm (Ev.congr (fun k => by rw [if_pos rfl]) J1))
          rw [H0, hdc, h3]
          simp only [Option.bind_some, List.length_map, Int.toNat_natCast]
          rw [if_pos trivial, if_neg (by omega), if_pos (by omega), if_pos (by omega), htk]
    have hsm := same_ev l0 l0 (by omega)
    rw [decide_eq_true rfl] at hsm
    refine Ev.congr (f := fun k => (freshetref02_Same.f k l0 l0).bind fun t109 => (freshetlaw02_RowBack.j0 k l0 a1 a2 (bs E) (!t109))) (fun k => ?_) (Ev.bind hsm J0)
    simp only [freshetlaw02_RowBack.f, xAwake2.f, Option.bind_some]
    rw [if_pos trivial, hE, Option.bind_some, hp, hS, Option.bind_some, hs]
    simp only
    rw [if_neg (by decide), if_pos trivial, hdx, Option.bind_some]
    simp only
    rw [if_pos trivial]

end Go.Proofs.YthpkjkcfhipjhaaDoor
