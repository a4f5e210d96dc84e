/- Plain: LexPlaces answers true. -/
import Derived.Test.YtlaafpbhhnehgaaDoorLQ1
namespace Go.Proofs.YtlaafpbhhnehgaaDoor
set_option linter.unusedVariables false
set_option linter.unusedSimpArgs false
open Go.RowKit Go.Proofs.YtlaafpbhhnehgaaDoorW.PrintWords Go.Proofs.YtlaafpbhhnehgaaDoorW.PrintLast PLX

theorem PLs.hd {L : List UInt8} : ∀ {l : List S34} {a : Nat} {u : S34}, PLs L a (u :: l) → ∃ q : Nat, a ≤ q ∧ q ≤ L.length ∧ u.f2 = q
  | [], _, _, h => ⟨L.length, h.2, Nat.le_refl _, by rw [h.1]⟩
  | _ :: _, _, _, ⟨q, h1, h2, h3, _⟩ => ⟨q, h1, by omega, h3⟩
theorem PLs.lst {L : List UInt8} : ∀ {l : List S34} {a : Nat}, PLs L a l → ∃ pre, l = pre ++ [⟨0, ⟨#[]⟩, (L.length : Int)⟩]
  | [e], _, h => ⟨[], by rw [h.1]; rfl⟩
  | t :: u :: r, _, ⟨q, _, _, _, _, h⟩ => by
    obtain ⟨pre, hp⟩ := PLs.lst h
    exact ⟨t :: pre, by rw [hp]; rfl⟩

theorem rd_mid (pre : List S34) (t : S34) (r : List S34) : rd_T34 (pre ++ t :: r) ((pre.length : Nat) : Int) = t := by
  unfold rd_T34; simp
theorem w64i {n : Int} (h0 : -9223372036854775808 ≤ n) (h1 : n ≤ 9223372036854775807) : wrap64 n = n := by unfold wrap64; omega

set_option maxHeartbeats 4000000 in
theorem pl_ev (s : ByteArray) (hs : s.size ≤ 65536) : ∀ (r : List S34) (pre : List S34) (a : Nat), pre.length + r.length ≤ 1001 → PLs s.data.toList a r → Ev (fun k => freshetlaw13_LexPlaces.l0 k s (pre ++ r) ((pre.length : Nat) : Int)) true
  | [], _, _, _, h => h.elim
  | [e], pre, a, hl, h => by
    refine Ev.step (f := fun _ => some true) (fun k => ?_) (Ev.now _)
    rw [freshetlaw13_LexPlaces.l0, if_neg]
    have hn : ((pre ++ [e]).length : Int) = (pre.length : Int) + 1 := by simp
    rw [hn, w64i (by omega) (by simp only [List.length_cons, List.length_nil] at hl; omega)]; omega
  | t :: u :: r, pre, a, hl, h => by
    have hsz : s.data.toList.length = s.size := (Lib.size_eq s).symm
    obtain ⟨q, h1, h2, h3, h4, h5⟩ := h
    obtain ⟨q2, g1, g2, g3⟩ := h5.hd
    obtain ⟨o1, o2, o3, o4, o5⟩ := h4
    have hlen : (pre ++ t :: u :: r).length = pre.length + r.length + 2 := by simp; omega
    have ih := pl_ev s hs (u :: r) (pre ++ [t]) (q + 1) (by simp at hl ⊢; omega) h5
    have e1 : pre ++ [t] ++ u :: r = pre ++ t :: u :: r := by simp
    have e2 : (((pre ++ [t]).length : Nat) : Int) = (pre.length : Int) + 1 := by simp
    rw [e1, e2] at ih
    have hrd := rd_mid pre t (u :: r)
    have hrd2 : rd_T34 (pre ++ t :: u :: r) ((pre.length : Int) + 1) = u := by
      have := rd_mid (pre ++ [t]) u r
      rw [e1, e2] at this; exact this
    simp only [List.length_cons] at hl
    generalize pre ++ t :: u :: r = X at *
    have WI : Hid (wrap64 ((pre.length : Int) + 1) = (pre.length : Int) + 1) := hidF (w64i (by omega) (by omega))
    -- behind the last test
    have J3 : Ev (fun k => freshetlaw13_LexPlaces.j3 k s X (pre.length : Int) false t.f0 t.f1 t.f2) true := by
      by_cases hk2 : t.f0 = 2
      · refine Ev.step (fun k => ?_) ih
        simp only [freshetlaw13_LexPlaces.j3]
        rw [if_neg Bool.false_ne_true, if_pos hk2]
        have : xIsWord.f t.f1 = some true := by unfold xIsWord.f; rw [o5 hk2]
        rw [this, Option.bind_some, if_pos rfl, WI.out]
      · refine Ev.step (fun k => ?_) ih
        simp only [freshetlaw13_LexPlaces.j3]
        rw [if_neg Bool.false_ne_true, if_neg hk2, WI.out]
    have there : t.f0 = 6 ∨ t.f0 = 4 → q + t.f1.size ≤ s.size ∧ (s.extract q (q + t.f1.size)).toList = t.f1.toList := by
      intro hk
      obtain ⟨b1, b2⟩ := o4 hk
      rw [List.length_drop, hsz] at b2
      have hts : t.f1.size = t.f1.data.toList.length := Lib.size_eq _
      refine ⟨by omega, ?_⟩
      rw [Lib.extract_toList, ByteArray.toList_eq, show q + t.f1.size - q = t.f1.data.toList.length by omega]
      exact b1.symm
    have J2 : Ev (fun k => freshetlaw13_LexPlaces.j2 k s X (pre.length : Int) false t.f0 t.f1 t.f2) true := by
      by_cases hk6 : t.f0 = 6
      · obtain ⟨b1, b2⟩ := there (.inl hk6)
        refine Ev.step (fun k => ?_) J3
        have w1 : wrap64 (t.f2 + (t.f1.size : Int)) = ((q + t.f1.size : Nat) : Int) := by rw [h3, w64i (by omega) (by omega)]; omega
        have c1 : ¬ ((q + t.f1.size : Nat) : Int) > (s.size : Int) := by omega
        have c2 : 0 ≤ t.f2 := by omega
        have c3 : t.f2 ≤ ((q + t.f1.size : Nat) : Int) := by omega
        have c4 : ((q + t.f1.size : Nat) : Int) ≤ (s.size : Int) := by omega
        have c5 : ((s.extract (t.f2 : Int).toNat (((q + t.f1.size : Nat) : Int)).toNat).toList != t.f1.toList) = false := by
          rw [h3, Int.toNat_natCast, Int.toNat_natCast, b2]; simp
        simp only [freshetlaw13_LexPlaces.j2]
        rw [if_neg Bool.false_ne_true, if_pos hk6, w1, if_neg c1, if_pos c2, if_pos c3, if_pos c4, c5]
      · by_cases hk4 : t.f0 = 4
        · obtain ⟨b1, b2⟩ := there (.inr hk4)
          refine Ev.step (fun k => ?_) J3
          have w1 : wrap64 (t.f2 + (t.f1.size : Int)) = ((q + t.f1.size : Nat) : Int) := by rw [h3, w64i (by omega) (by omega)]; omega
          have c1 : ¬ ((q + t.f1.size : Nat) : Int) > (s.size : Int) := by omega
          have c2 : 0 ≤ t.f2 := by omega
          have c3 : t.f2 ≤ ((q + t.f1.size : Nat) : Int) := by omega
          have c4 : ((q + t.f1.size : Nat) : Int) ≤ (s.size : Int) := by omega
          have c5 : ((s.extract (t.f2 : Int).toNat (((q + t.f1.size : Nat) : Int)).toNat).toList != t.f1.toList) = false := by
            rw [h3, Int.toNat_natCast, Int.toNat_natCast, b2]; simp
          simp only [freshetlaw13_LexPlaces.j2]
          rw [if_neg Bool.false_ne_true, if_neg hk6, if_pos hk4, w1, if_neg c1, if_pos c2, if_pos c3, if_pos c4, c5]
        · refine Ev.step (fun k => ?_) J3
          simp only [freshetlaw13_LexPlaces.j2]
          rw [if_neg Bool.false_ne_true, if_neg hk6, if_neg hk4]
    refine Ev.step (fun k => ?_) J2
    have d1 : (pre.length : Int) < (pre.length : Int) + r.length + 1 := by clear o3 o4 o5 there J2 J3 ih h5; omega
    have d2 : 0 ≤ (pre.length : Int) := by clear o3 o4 o5 there J2 J3 ih h5; omega
    have d3 : (pre.length : Int) < ((pre.length + r.length + 2 : Nat) : Int) := by clear o3 o4 o5 there J2 J3 ih h5; omega
    have d4 : ¬ t.f0 < 1 := by clear o3 o4 o5 there J2 J3 ih h5; omega
    have d5 : ¬ t.f0 > 6 := by clear o3 o4 o5 there J2 J3 ih h5; omega
    have d6 : ¬ t.f2 < 0 := by clear o3 o4 o5 there J2 J3 ih h5; omega
    have d7 : 0 ≤ (pre.length : Int) + 1 := by clear o3 o4 o5 there J2 J3 ih h5; omega
    have d8 : (pre.length : Int) + 1 < ((pre.length + r.length + 2 : Nat) : Int) := by clear o3 o4 o5 there J2 J3 ih h5; omega
    have d9 : ¬ t.f2 ≥ u.f2 := by clear o3 o4 o5 there J2 J3 ih h5; omega
    have wl : wrap64 (((pre.length + r.length + 2 : Nat) : Int) - 1) = (pre.length : Int) + r.length + 1 := by clear o3 o4 o5 there J2 J3 ih h5; rw [w64i (by omega) (by omega)]; omega
    simp only [freshetlaw13_LexPlaces.l0]
    rw [hlen, wl, if_pos d1, if_pos d2, if_pos d3, hrd, if_neg d4, if_neg d5, if_neg d6, WI.out, if_pos d7, if_pos d8, hrd2, if_neg d9]
    by_cases hemp : t.f1.toList = []
    · rw [if_pos hemp]
      have hk5 : t.f0 = 5 := by
        rcases o3 with o3 | o3
        · rw [ByteArray.toList_eq] at hemp; exact absurd hemp o3
        · exact o3
      have hx : (t.f0 != 5) = false := by rw [hk5]; decide
      rw [hx]
    · rw [if_neg hemp]

theorem places_ev (s : ByteArray) : Ev (fun k => freshetlaw13_LexPlaces.f k s) true := by
  have hsz : s.data.toList.length = s.size := (Lib.size_eq s).symm
  have ha := awake_ev
  have key : Ev (fun k => (xScan.f s).bind fun bt292 => (if bt292.2.2 = 0 then (if (bt292.1.length : Int) < 1 then (freshetlaw13_LexPlaces.j0 k s bt292.1 true) else (if 0 ≤ (wrap64 ((bt292.1.length : Int) - 1)) then (if (wrap64 ((bt292.1.length : Int) - 1)) < (bt292.1.length : Int) then (if (!(((rd_T34 bt292.1 (wrap64 ((bt292.1.length : Int) - 1))).f0) == 0) || (!((((rd_T34 bt292.1 (wrap64 ((bt292.1.length : Int) - 1))).f1).toList) == ([] : List UInt8)) || (!(((rd_T34 bt292.1 (wrap64 ((bt292.1.length : Int) - 1))).f2) == (s.size : Int))))) = true then (freshetlaw13_LexPlaces.j0 k s bt292.1 true) else (freshetlaw13_LexPlaces.j0 k s bt292.1 (decide ((bt292.1.length : Int) > 1001)))) else (none)) else (none))) else (some ((bt292.1.length : Int) == 0)))) true := by
    unfold xScan.f scanP
    by_cases hs : s.size ≤ 65536
    · simp only [if_pos hs, Option.bind_some]
      cases hr : scanL 1000 s.size s.data.toList with
      | error p => exact Ev.now true
      | ok l =>
        have hp := scan_places s.data.toList 1000 0 l (by omega) (by rw [hsz]; exact hr)
        obtain ⟨pre, hl⟩ := hp.1.lst
        rw [hsz] at hl
        have hlen : l.length = pre.length + 1 := by rw [hl]; simp
        have hev := pl_ev s hs l [] 0 (by simp; omega) hp.1
        have J0 : Ev (fun k => freshetlaw13_LexPlaces.j0 k s l false) true := by
          refine Ev.step (fun k => ?_) hev
          rw [freshetlaw13_LexPlaces.j0, if_neg Bool.false_ne_true]; rfl
        have wl : wrap64 ((l.length : Int) - 1) = (pre.length : Int) := by rw [w64i (by omega) (by omega)]; omega
        have hrd : rd_T34 l (pre.length : Int) = ⟨0, ⟨#[]⟩, (s.size : Int)⟩ := by rw [hl]; exact rd_mid pre _ []
        refine Ev.congr (fun k => ?_) J0
        simp only [if_true]
        rw [if_neg (by omega), wl, if_pos (by omega), if_pos (by omega), hrd]
        have hd : decide ((l.length : Int) > 1001) = false := decide_eq_false (by omega)
        rw [hd]
        simp [ByteArray.toList_eq]
    · simp only [if_neg hs, Option.bind_some]
      exact Ev.now true
  unfold freshetlaw13_LexPlaces.f
  exact Ev.bind ha (Ev.congr (fun k => by rw [if_pos rfl]) key)

end Go.Proofs.YtlaafpbhhnehgaaDoor
