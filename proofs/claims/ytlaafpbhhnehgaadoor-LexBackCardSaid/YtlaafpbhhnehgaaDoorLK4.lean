/- LexBack answers true. -/
import Derived.Test.YtlaafpbhhnehgaaDoorLK3
import Derived.Test.YtlaafpbhhnehgaaDoorLA
import Derived.Test.YtlaafpbhhnehgaaDoorPLXx
namespace Go.Proofs.YtlaafpbhhnehgaaDoor
set_option linter.unusedVariables false
set_option linter.unusedSimpArgs false
open Go.RowKit Go.Proofs.YtlaafpbhhnehgaaDoorW.PrintWords Go.Proofs.YtlaafpbhhnehgaaDoorW.PrintLast PLX

theorem map_rd {L : List S34} {Q : List (Int × ByteArray)} (h : L.map (fun t => (t.f0, t.f1)) = Q) {i : Nat} (hi : i < Q.length) : (rd_T34 L (i : Int)).f0 = Q[i].1 ∧ (rd_T34 L (i : Int)).f1 = Q[i].2 := by
  subst h
  have h1 : i < L.length := by simpa using hi
  have h2 : rd_T34 L (i : Int) = L[i] := by unfold rd_T34; simp [h1]
  rw [h2]; simp

theorem same_ev (L M : List S34) (Q : List (Int × ByteArray)) (hL : L.map (fun t => (t.f0, t.f1)) = Q) (hM : M.map (fun t => (t.f0, t.f1)) = Q) (hQ : Q.length ≤ 2000) : Ev (fun k => freshetlaw13_LexBack.l0 k L M 0) true := by
  have l1 : L.length = Q.length := by rw [← hL]; simp
  have l2 : M.length = Q.length := by rw [← hM]; simp
  have main : ∀ d i : Nat, i + d = Q.length → Ev (fun k => freshetlaw13_LexBack.l0 k L M (i : Int)) true := by
    intro d
    induction d with
    | zero =>
      intro i hi
      refine Ev.step (f := fun _ => some true) (fun k => ?_) (Ev.now _)
      simp only [freshetlaw13_LexBack.l0]
      rw [if_neg (show ¬ (i : Int) < (L.length : Int) by omega)]
    | succ d ih =>
      intro i hi
      have hlt : i < Q.length := by omega
      obtain ⟨a1, a2⟩ := map_rd hL hlt
      obtain ⟨b1, b2⟩ := map_rd hM hlt
      have hw : wrap64 ((i : Int) + 1) = ((i + 1 : Nat) : Int) := by rw [w64k (by omega) (by omega)]; omega
      refine Ev.step (fun k => ?_) (ih (i + 1) (by omega))
      simp only [freshetlaw13_LexBack.l0]
      rw [if_pos (show (i : Int) < (L.length : Int) by omega), if_pos (show 0 ≤ (i : Int) by omega), if_pos (show (i : Int) < (M.length : Int) by omega), a1, a2, b1, b2, if_pos rfl, if_pos rfl, hw]
  exact main Q.length 0 (by omega)

theorem scanP_ok {s : ByteArray} {l : List S34} (hs : s.size ≤ 65536) (h : scanL 1000 s.size s.data.toList = .ok l) : xScan.f s = some (l, 0, 0) := by
  unfold xScan.f scanP; rw [if_pos hs, h]
theorem scanP_err {s : ByteArray} {p : Nat} (hs : s.size ≤ 65536) (h : scanL 1000 s.size s.data.toList = .error p) : xScan.f s = some ([], (p : Int), 20) := by
  unfold xScan.f scanP; rw [if_pos hs, h]
theorem scanP_big {s : ByteArray} (hs : ¬ s.size ≤ 65536) : xScan.f s = some ([], 0, 20) := by
  unfold xScan.f scanP; rw [if_neg hs]

theorem back0_ev (s : ByteArray) : Ev (fun k => freshetlaw13_LexBack.j0 k s) true := by
  by_cases hs : s.size ≤ 65536
  · cases hr : scanL 1000 s.size s.data.toList with
    | error p =>
      have hp := scan_err 1000 s.size _ p hr
      refine Ev.step (f := fun _ => some true) (fun k => ?_) (Ev.now _)
      simp only [freshetlaw13_LexBack.j0]
      rw [scanP_err hs hr, Option.bind_some]
      simp; omega
    | ok L =>
      obtain ⟨P, h1, h2, h3⟩ := scan_toks 65536 1000 s.size s.data.toList L (by rw [← Lib.size_eq]; exact hs) hr
      have hsh := show_ev P L h1 65536 (by omega) h2 h3
      obtain ⟨t, ht⟩ : ∃ t : ByteArray, t = ⟨(joinW (P.map wB)).toArray⟩ := ⟨_, rfl⟩
      rw [← ht] at hsh
      have htd : t.data.toList = joinW (P.map wB) := by rw [ht]
      by_cases hbig : t.size ≤ 65536
      · obtain ⟨m, hm1, hm2⟩ := scan_join t.size (P.map fun p => (⟨p.1, p.2, 0⟩ : S34)) 1000 (by simpa using h2) (fun u hu => by
          obtain ⟨p, hp, rfl⟩ := List.mem_map.1 hu
          exact (h3 p hp).rd)
        have e1 : ((P.map fun p => (⟨p.1, p.2, 0⟩ : S34)).map fun t => tokW t.f0 t.f1.data.toList) = P.map wB := by simp [wB]
        have e2 : ((P.map fun p => (⟨p.1, p.2, 0⟩ : S34)).map fun t => (t.f0, t.f1)) = P := by
          have hid : ((fun t : S34 => (t.f0, t.f1)) ∘ fun p : Int × ByteArray => (⟨p.1, p.2, 0⟩ : S34)) = id := by funext p; rfl
          rw [List.map_map, hid, List.map_id]
        rw [e1, ← htd] at hm1
        rw [e2] at hm2
        have hsm := show_ev P m hm2 65536 (by omega) h2 h3
        rw [← ht] at hsm
        have hlen : (m.length : Int) = (L.length : Int) := by
          have a := congrArg List.length h1
          have b := congrArg List.length hm2
          simp only [List.length_map] at a b
          omega
        have hj1 : Ev (fun k => freshetlaw13_LexBack.j1 k L m false) true := by
          refine Ev.step (fun k => ?_) (same_ev L m _ h1 hm2 (by simp; omega))
          simp only [freshetlaw13_LexBack.j1]
          rw [if_neg Bool.false_ne_true]
        refine Ev.step (f := fun k => (lex_Show.f k L).bind fun t280 => (if (t280.size : Int) > 65536 then (some true) else ((xScan.f t280).bind fun bt281 => (if bt281.2.2 = 0 then (if (bt281.1.length : Int) = (L.length : Int) then ((lex_Show.f k bt281.1).bind fun t286 => (freshetlaw13_LexBack.j1 k L bt281.1 (t286.toList != t280.toList))) else (freshetlaw13_LexBack.j1 k L bt281.1 true)) else (freshetlaw13_LexBack.j1 k L bt281.1 true))))) (fun k => ?_) ?_
        · simp only [freshetlaw13_LexBack.j0]
          rw [scanP_ok hs hr, Option.bind_some, if_pos rfl]
        · refine Ev.bind hsh (Ev.congr (fun k => by rw [if_neg (show ¬ (t.size : Int) > 65536 by omega), scanP_ok hbig hm1, Option.bind_some, if_pos rfl, if_pos hlen]) (Ev.bind hsm ?_))
          have : (t.toList != t.toList) = false := by simp
          rw [this]; exact hj1
      · refine Ev.step (f := fun k => (lex_Show.f k L).bind fun t280 => (if (t280.size : Int) > 65536 then (some true) else ((xScan.f t280).bind fun bt281 => (if bt281.2.2 = 0 then (if (bt281.1.length : Int) = (L.length : Int) then ((lex_Show.f k bt281.1).bind fun t286 => (freshetlaw13_LexBack.j1 k L bt281.1 (t286.toList != t280.toList))) else (freshetlaw13_LexBack.j1 k L bt281.1 true)) else (freshetlaw13_LexBack.j1 k L bt281.1 true))))) (fun k => ?_) ?_
        · simp only [freshetlaw13_LexBack.j0]
          rw [scanP_ok hs hr, Option.bind_some, if_pos rfl]
        · exact Ev.bind hsh (Ev.congr (fun k => by rw [if_pos (show (t.size : Int) > 65536 by omega)]) (Ev.now true))
  · refine Ev.step (f := fun _ => some true) (fun k => ?_) (Ev.now _)
    simp only [freshetlaw13_LexBack.j0]
    rw [scanP_big hs, Option.bind_some]
    simp

theorem back_ev (s a : ByteArray) : Ev (fun k => freshetlaw13_LexBack.f k s a) true := by
  have hj := back0_ev s
  unfold freshetlaw13_LexBack.f
  refine Ev.bind awake_ev (Ev.congr (f := fun k => (xName.f a).bind fun bt265 => (if bt265.2 = 0 then ((xScan.f bt265.1).bind fun bt267 => (if bt267.2.2 = 0 then (if (bt267.1.length : Int) = 2 then (if 0 < (bt267.1.length : Int) then (if ((rd_T34 bt267.1 0).f0) = 1 then (if ((rd_T34 bt267.1 0).f1).toList = a.toList then (if 1 < (bt267.1.length : Int) then (if ((rd_T34 bt267.1 1).f0) = 0 then (freshetlaw13_LexBack.j0 k s) else (some false)) else (none)) else (some false)) else (some false)) else (none)) else (some false)) else (some false))) else (if bt265.1.toList = ([] : List UInt8) then (if bt265.2 = 23 then (freshetlaw13_LexBack.j0 k s) else (some false)) else (some false)))) (fun k => by rw [if_pos rfl]) ?_)
  cases hn : nameP a.data.toList
  · have hw : nameW a.data.toList = ([], 23) := by unfold nameW; rw [hn]; rfl
    refine Ev.congr (fun k => ?_) hj
    unfold xName.f
    rw [hw, Option.bind_some, if_neg (show ¬ (23 : Int) = 0 by omega), if_pos (show (⟨([] : List UInt8).toArray⟩ : ByteArray).toList = [] by rw [ByteArray.toList_eq]), if_pos rfl]
  · have hw2 : (nameW a.data.toList).2 = 0 := by unfold nameW; rw [hn]; rfl
    obtain ⟨w, hw⟩ : ∃ w : ByteArray, w = ⟨(nameW a.data.toList).1.toArray⟩ := ⟨_, rfl⟩
    have hwd : w.data.toList = (nameW a.data.toList).1 := by rw [hw]
    have hx : xName.f a = some (w, 0) := by unfold xName.f; rw [hw2, ← hw]
    have hws : w.size ≤ 65536 := by
      have h1 := w_len (1, a)
      have e : wB (1, a) = (nameW a.data.toList).1 := rfl
      rw [e, ← hwd, ← Lib.size_eq] at h1
      have h2 : a.size ≤ 32 := by
        rw [Lib.size_eq]
        simp only [nameP, Bool.and_eq_true, decide_eq_true_eq] at hn; exact hn.1.1.2
      simp only at h1
      omega
    obtain ⟨m, hm1, hm2⟩ := scan_join w.size [⟨1, a, 0⟩] 1000 (by simp) (fun u hu => by
      have : u = ⟨1, a, 0⟩ := by simpa using hu
      subst this; exact rd_name hn)
    have e1 : joinW ([(⟨1, a, 0⟩ : S34)].map fun t => tokW t.f0 t.f1.data.toList) = w.data.toList := by rw [hwd]; rfl
    rw [e1] at hm1
    have hm3 : m.map (fun t => (t.f0, t.f1)) = [(1, a), (0, ⟨#[]⟩)] := hm2
    have hlen : (m.length : Int) = 2 := by have := congrArg List.length hm3; simp at this; omega
    obtain ⟨a1, a2⟩ := map_rd hm3 (i := 0) (by simp)
    obtain ⟨b1, b2⟩ := map_rd hm3 (i := 1) (by simp)
    rw [show ((0 : Nat) : Int) = 0 from rfl] at a1 a2
    rw [show ((1 : Nat) : Int) = 1 from rfl] at b1
    have a1' : (rd_T34 m 0).f0 = 1 := a1
    have a2' : (rd_T34 m 0).f1 = a := a2
    have b1' : (rd_T34 m 1).f0 = 0 := b1
    refine Ev.congr (fun k => ?_) hj
    rw [hx, Option.bind_some, if_pos rfl, scanP_ok hws hm1, Option.bind_some, if_pos rfl, if_pos hlen, if_pos (show 0 < (m.length : Int) by omega), if_pos a1', a2', if_pos rfl, if_pos (show 1 < (m.length : Int) by omega), if_pos b1']

theorem walkLexBack (s a : ByteArray) (w0 : s.size ≤ maxLen) (w1 : a.size ≤ maxLen) (w : World) (ht : Tab w) :
    Calls Tryd.prog 6 #[.string s, .string a] w fun e w' => e = .returned (.bool true) ∧ Below w.heap.size w w' := by
  obtain ⟨k, hk⟩ := (back_ev s a).rounds
  exact freshetlaw13_LexBack.calls k s a true w ht hk

end Go.Proofs.YtlaafpbhhnehgaaDoor
