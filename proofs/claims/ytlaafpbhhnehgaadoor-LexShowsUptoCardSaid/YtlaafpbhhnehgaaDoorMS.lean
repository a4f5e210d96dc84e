/- LexShows, in plain words: every list of tokens is written as the document says. The document's Show, in plain words. LexShows answers true; a row of tokens as argument, opened. -/
import Derived.Test.YtlaafpbhhnehgaaDoorLN3
import Derived.Test.YtlaafpbhhnehgaaDoorLK3
import Derived.Test.YtlaafpbhhnehgaaDoorLA
import Derived.Test.YtlaafpbhhnehgaaDoorPLXx
import Derived.Test.YtlaafpbhhnehgaaDoorRows
import Derived.Deep.Strs
import Derived.Deep.Slices
import Derived.ChangeOld
import Derived.Carry
import Derived.OpenShut
namespace Go.Proofs.YtlaafpbhhnehgaaDoor
set_option linter.unusedVariables false
set_option linter.unusedSimpArgs false
open Go.RowKit Go.Proofs.YtlaafpbhhnehgaaDoorW.PrintWords Go.Proofs.YtlaafpbhhnehgaaDoorW.PrintLast PLX

def nz (t : S34) : Bool := t.f0 != 0
/-- a token's word -/
def wT (t : S34) : List UInt8 := wB (t.f0, t.f1)

theorem rd_get (L : List S34) (i : Nat) (h : i < L.length) : rd_T34 L (i : Int) = L[i] := by unfold rd_T34; simp [h]

theorem joinW_snoc : ∀ (ws : List (List UInt8)) (w : List UInt8), joinW (ws ++ [w]) = if ws = [] then w else joinW ws ++ 32 :: w
  | [], w => rfl
  | [v], w => by simp [joinW]
  | v :: u :: r, w => by
    have := joinW_snoc (u :: r) w
    rw [List.cons_append, List.cons_append, joinW, ← List.cons_append, this]
    simp [joinW]

theorem show_gen (L : List S34) (hL : L.length ≤ 1048576) (hs : ∀ t ∈ L, t.f1.size ≤ 1048576) : Ev (fun k => lex_Show.f k L) ⟨(joinW ((L.takeWhile nz).map wT)).toArray⟩ := by
  have hj : ∀ ts : List S34, (∀ t ∈ ts, t ∈ L) → ts.length ≤ L.length → xJoin.f (ts.map fun t => (⟨(wT t).toArray⟩ : ByteArray)) ⟨#[32]⟩ = some ⟨(joinW (ts.map wT)).toArray⟩ := by
    intro ts hts hl
    have e : (ts.map fun t => (⟨(wT t).toArray⟩ : ByteArray)).map (·.data.toList) = ts.map wT := by simp
    have e2 : (⟨#[32]⟩ : ByteArray).data.toList = [32] := rfl
    unfold xJoin.f
    rw [e, e2, join_eq, if_pos]
    have hw := joinW_len (2 * 1048576 + 2) (ts.map wT) (fun w hw => by
      obtain ⟨t, ht, rfl⟩ := List.mem_map.1 hw
      have h1 := w_len (t.f0, t.f1)
      have h2 := hs t (hts t ht)
      simp only at h1
      unfold wT; omega)
    rw [List.length_map] at hw ⊢
    have h3 : ts.length * (2 * 1048576 + 2 + 1) ≤ 1048576 * 2097155 := Nat.mul_le_mul (by omega) (by omega)
    exact ⟨by omega, by omega⟩
  have main : ∀ d i : Nat, i + d = L.length → (∀ t ∈ L.take i, nz t = true) → Ev (fun k => lex_Show.l0 k ((L.take i).map fun t => (⟨(wT t).toArray⟩ : ByteArray)) L (L.length : Int) (i : Int)) ⟨(joinW ((L.take i ++ (L.drop i).takeWhile nz).map wT)).toArray⟩ := by
    intro d
    induction d with
    | zero =>
      intro i hi hz
      rw [List.drop_of_length_le (by omega), List.takeWhile_nil, List.append_nil, List.take_of_length_le (by omega)]
      refine Ev.step (f := fun _ => some _) (fun k => ?_) (Ev.now _)
      simp only [lex_Show.l0]
      rw [if_neg (show ¬ (i : Int) < (L.length : Int) by omega), hj L (fun t ht => ht) (by omega), Option.bind_some]
    | succ d ih =>
      intro i hi hz
      have hlt : i < L.length := by omega
      have hr := rd_get L i hlt
      have hsz := hs L[i] (List.getElem_mem hlt)
      have q1 : (i : Int) < (L.length : Int) := by omega
      have q2 : 0 ≤ (i : Int) := by omega
      rw [List.drop_eq_getElem_cons hlt]
      by_cases h0 : L[i].f0 = 0
      · have hnz : nz L[i] = false := by unfold nz; rw [h0]; rfl
        rw [List.takeWhile_cons, if_neg (by rw [hnz]; exact Bool.false_ne_true), List.append_nil]
        refine Ev.step (f := fun _ => some _) (fun k => ?_) (Ev.now _)
        simp only [lex_Show.l0]
        rw [if_pos q1, if_pos q2, if_pos q1, hr, if_pos h0, hj (L.take i) (fun t ht => List.mem_of_mem_take ht) (by rw [List.length_take]; omega), Option.bind_some]
      · have hnz : nz L[i] = true := by unfold nz; simpa using h0
        rw [List.takeWhile_cons, if_pos hnz]
        have ht1 : L.take (i + 1) = L.take i ++ [L[i]] := List.take_succ_eq_append_getElem hlt
        have ih2 := ih (i + 1) (by omega) (by
          intro t ht
          rw [ht1] at ht
          rcases List.mem_append.1 ht with ht | ht
          · exact hz t ht
          · rw [List.mem_singleton.1 ht]; exact hnz)
        have e3 : L.take (i + 1) ++ (L.drop (i + 1)).takeWhile nz = L.take i ++ L[i] :: (L.drop (i + 1)).takeWhile nz := by rw [ht1, List.append_assoc]; rfl
        rw [e3, ht1, List.map_append] at ih2
        have hcl : ((L.take i).map fun t => (⟨(wT t).toArray⟩ : ByteArray)).length < 8796093022208 := by
          rw [List.length_map, List.length_take]; omega
        have hw1 : wrap64 ((i : Int) + 1) = ((i + 1 : Nat) : Int) := by rw [w64k (by omega) (by omega)]; omega
        generalize ((L.take i).map fun t => (⟨(wT t).toArray⟩ : ByteArray)) = acc at *
        refine Ev.step (fun k => ?_) ih2
        simp only [lex_Show.l0]
        rw [if_pos q1, if_pos q2, if_pos q1, hr, if_neg h0]
        by_cases h1 : L[i].f0 = 1
        · have hx : xName.f L[i].f1 = some (⟨(wT L[i]).toArray⟩, (nameW L[i].f1.data.toList).2) := by unfold xName.f wT wB tokW; rw [if_pos h1]
          rw [if_pos h1, hx, Option.bind_some, if_pos hcl, hw1]; rfl
        · rw [if_neg h1]
          by_cases h5 : L[i].f0 = 5
          · have hx : xQuoted.f L[i].f1 39 = some ⟨(wT L[i]).toArray⟩ := by
              unfold xQuoted.f wT wB tokW; rw [if_neg h1, if_pos h5, if_pos ⟨rfl, by omega⟩]
            rw [if_pos h5, hx, Option.bind_some, if_pos hcl, hw1]; rfl
          · have hx : (⟨(wT L[i]).toArray⟩ : ByteArray) = L[i].f1 := by unfold wT wB tokW; rw [if_neg h1, if_neg h5]
            rw [if_neg h5, if_pos hcl, hw1, ← hx]; rfl
  have h := main L.length 0 (by omega) (fun t ht => by simp at ht)
  rw [List.take_zero, List.nil_append, List.drop_zero] at h
  unfold lex_Show.f
  exact h

theorem rname_all (s : ByteArray) (hz : s.size ≤ 140737488351232) : Ev (fun k => freshetref13_Name.f k s) (⟨(nameW s.data.toList).1.toArray⟩, (nameW s.data.toList).2) := by
  refine rname_ev s ?_ (by omega) (isName_ev s (by omega))
  by_cases h : s.size ≤ 32
  · exact .inl h
  · right
    unfold nameP
    rw [← Lib.size_eq, decide_eq_false h]; simp

theorem ba_app (a b : List UInt8) : (⟨a.toArray⟩ ++ ⟨b.toArray⟩ : ByteArray) = ⟨(a ++ b).toArray⟩ := by apply ByteArray.ext; simp

end Go.Proofs.YtlaafpbhhnehgaaDoor

namespace Go.Proofs.YtlaafpbhhnehgaaDoor
set_option linter.unusedVariables false
set_option linter.unusedSimpArgs false
open Go.RowKit Go.Proofs.YtlaafpbhhnehgaaDoorW.PrintWords Go.Proofs.YtlaafpbhhnehgaaDoorW.PrintLast PLX

theorem rshow_ev (L : List S34) (hL : L.length ≤ 1048576) (hs : ∀ t ∈ L, t.f1.size ≤ 1048576) : Ev (fun k => freshetref13_Show.f k L) ⟨(joinW ((L.takeWhile nz).map wT)).toArray⟩ := by
  have hJ : ∀ i, i ≤ L.length → (⟨(joinW ((L.take i).map wT)).toArray⟩ : ByteArray).size ≤ 2199026401280 := by
    intro i hi
    have hw := joinW_len (2 * 1048576 + 2) ((L.take i).map wT) (fun w hw => by
      obtain ⟨t, ht, rfl⟩ := List.mem_map.1 hw
      have h1 := w_len (t.f0, t.f1)
      have h2 := hs t (List.mem_of_mem_take ht)
      simp only at h1
      unfold wT; omega)
    rw [List.length_map, List.length_take] at hw
    have h3 : min i L.length * (2 * 1048576 + 2 + 1) ≤ 1048576 * 2097155 := Nat.mul_le_mul (by omega) (by omega)
    rw [Lib.size_eq]
    show (joinW ((L.take i).map wT)).length ≤ _
    omega
  have main : ∀ d i : Nat, i + d = L.length → (∀ t ∈ L.take i, nz t = true) → Ev (fun k => freshetref13_Show.l0 k L ⟨(joinW ((L.take i).map wT)).toArray⟩ (i : Int)) ⟨(joinW ((L.take i ++ (L.drop i).takeWhile nz).map wT)).toArray⟩ := by
    intro d
    induction d with
    | zero =>
      intro i hi hz
      rw [List.drop_of_length_le (by omega), List.takeWhile_nil, List.append_nil]
      have J : Ev (fun k => freshetref13_Show.j1 k L ⟨(joinW ((L.take i).map wT)).toArray⟩ (i : Int) false) ⟨(joinW ((L.take i).map wT)).toArray⟩ := by
        refine Ev.step (f := fun _ => some _) (fun k => ?_) (Ev.now _)
        simp only [freshetref13_Show.j1]
        rw [if_neg Bool.false_ne_true]
      refine Ev.step (fun k => ?_) J
      simp only [freshetref13_Show.l0]
      rw [if_neg (show ¬ (i : Int) < (L.length : Int) by omega)]
    | succ d ih =>
      intro i hi hz
      have hlt : i < L.length := by omega
      have hr := rd_get L i hlt
      have hsz := hs L[i] (List.getElem_mem hlt)
      have q1 : (i : Int) < (L.length : Int) := by omega
      have q2 : 0 ≤ (i : Int) := by omega
      have hb := hJ i (by omega)
      rw [List.drop_eq_getElem_cons hlt]
      by_cases h0 : L[i].f0 = 0
      · have hnz : nz L[i] = false := by unfold nz; rw [h0]; rfl
        rw [List.takeWhile_cons, if_neg (by rw [hnz]; exact Bool.false_ne_true), List.append_nil]
        have J : Ev (fun k => freshetref13_Show.j1 k L ⟨(joinW ((L.take i).map wT)).toArray⟩ (i : Int) false) ⟨(joinW ((L.take i).map wT)).toArray⟩ := by
          refine Ev.step (f := fun _ => some _) (fun k => ?_) (Ev.now _)
          simp only [freshetref13_Show.j1]
          rw [if_neg Bool.false_ne_true]
        refine Ev.step (fun k => ?_) J
        have hx : (L[i].f0 != 0) = false := hnz
        simp only [freshetref13_Show.l0]
        rw [if_pos q1, if_pos q2, hr, hx]
      · have hnz : nz L[i] = true := by unfold nz; simpa using h0
        rw [List.takeWhile_cons, if_pos hnz]
        have ht1 : L.take (i + 1) = L.take i ++ [L[i]] := List.take_succ_eq_append_getElem hlt
        have ih2 := ih (i + 1) (by omega) (by
          intro t ht
          rw [ht1] at ht
          rcases List.mem_append.1 ht with ht | ht
          · exact hz t ht
          · rw [List.mem_singleton.1 ht]; exact hnz)
        have e3 : L.take (i + 1) ++ (L.drop (i + 1)).takeWhile nz = L.take i ++ L[i] :: (L.drop (i + 1)).takeWhile nz := by rw [ht1, List.append_assoc]; rfl
        rw [e3, ht1, List.map_append, List.map_cons, List.map_nil, joinW_snoc] at ih2
        have hw1 : wrap64 ((i : Int) + 1) = ((i + 1 : Nat) : Int) := by rw [w64k (by omega) (by omega)]; omega
        have hwl := w_len (L[i].f0, L[i].f1)
        simp only at hwl
        obtain ⟨R, hR⟩ : ∃ R : ByteArray, R = ⟨(joinW ((L.take i ++ L[i] :: (L.drop (i + 1)).takeWhile nz).map wT)).toArray⟩ := ⟨_, rfl⟩
        rw [← hR] at ih2 ⊢
        have hWsz : (⟨(wT L[i]).toArray⟩ : ByteArray).size ≤ 2097154 := by
          rw [Lib.size_eq]; show (wT L[i]).length ≤ _; unfold wT; omega
        -- the word behind y
        have J2 : ∀ y : ByteArray, y.size ≤ 2199026401281 → Ev (fun k => freshetref13_Show.l0 k L (y ++ ⟨(wT L[i]).toArray⟩) ((i + 1 : Nat) : Int)) R → Ev (fun k => freshetref13_Show.j2 k L y (i : Int)) R := by
          intro y hy hev
          have hm : y.size + (⟨(wT L[i]).toArray⟩ : ByteArray).size ≤ 9223372036854775807 := by omega
          by_cases h1 : L[i].f0 = 1
          · have hx := rname_all L[i].f1 (by omega)
            have hwt : (nameW L[i].f1.data.toList).1 = wT L[i] := by unfold wT wB tokW; rw [if_pos h1]
            rw [hwt] at hx
            refine Ev.step (f := fun k => (freshetref13_Name.f k L[i].f1).bind fun bt202 => (if y.size + bt202.1.size ≤ 9223372036854775807 then (freshetref13_Show.l0 k L (y ++ bt202.1) (wrap64 ((i : Int) + 1))) else none)) (fun k => ?_) (Ev.bind hx (Ev.congr (fun k => by rw [if_pos hm, hw1]) hev))
            simp only [freshetref13_Show.j2]
            rw [if_pos q2, if_pos q1, hr, if_pos h1]
          · by_cases h5 : L[i].f0 = 5
            · have hx := quoted_ev L[i].f1 (by omega) 39
              have hwt : quoteL 39 L[i].f1.data.toList = wT L[i] := by unfold wT wB tokW; rw [if_neg h1, if_pos h5]
              rw [hwt] at hx
              refine Ev.step (f := fun k => (freshetref13_quoted.f k L[i].f1 39).bind fun t205 => (if y.size + t205.size ≤ 9223372036854775807 then (freshetref13_Show.l0 k L (y ++ t205) (wrap64 ((i : Int) + 1))) else none)) (fun k => ?_) (Ev.bind hx (Ev.congr (fun k => by rw [if_pos hm, hw1]) hev))
              simp only [freshetref13_Show.j2]
              rw [if_pos q2, if_pos q1, hr, if_neg h1, if_pos h5]
            · have hx : (⟨(wT L[i]).toArray⟩ : ByteArray) = L[i].f1 := by unfold wT wB tokW; rw [if_neg h1, if_neg h5]
              rw [hx] at hev hm
              refine Ev.step (fun k => ?_) hev
              simp only [freshetref13_Show.j2]
              rw [if_pos q2, if_pos q1, hr, if_neg h1, if_neg h5, if_pos hm, hw1]
        have J1 : Ev (fun k => freshetref13_Show.j1 k L ⟨(joinW ((L.take i).map wT)).toArray⟩ (i : Int) true) R := by
          by_cases hi0 : i = 0
          · subst hi0
            refine Ev.step (fun k => ?_) (J2 ⟨(joinW ((L.take 0).map wT)).toArray⟩ (by omega) ?_)
            · simp only [freshetref13_Show.j1]
              rw [if_pos trivial, if_neg (show ¬ ((0 : Nat) : Int) > 0 by omega)]
            · rw [if_pos (by simp)] at ih2
              have e : ((⟨(joinW ((L.take 0).map wT)).toArray⟩ : ByteArray) ++ ⟨(wT L[0]).toArray⟩) = ⟨(wT L[0]).toArray⟩ := by rw [ba_app]; simp [joinW]
              rw [e]; exact ih2
          · have hne : ¬ (L.take i).map wT = [] := by
              intro h
              have := congrArg List.length h
              rw [List.length_map, List.length_take] at this; simp only [List.length_nil] at this; omega
            rw [if_neg hne] at ih2
            have e : ((⟨(joinW ((L.take i).map wT)).toArray⟩ : ByteArray) ++ ⟨#[32]⟩) ++ ⟨(wT L[i]).toArray⟩ = ⟨(joinW ((L.take i).map wT) ++ 32 :: wT L[i]).toArray⟩ := by
              have : (⟨#[32]⟩ : ByteArray) = ⟨[32].toArray⟩ := rfl
              rw [this, ba_app, ba_app]; simp
            have hsz2 : ((⟨(joinW ((L.take i).map wT)).toArray⟩ : ByteArray) ++ ⟨#[32]⟩).size = (⟨(joinW ((L.take i).map wT)).toArray⟩ : ByteArray).size + 1 := by rw [ByteArray.size_append]; rfl
            refine Ev.step (fun k => ?_) (J2 ((⟨(joinW ((L.take i).map wT)).toArray⟩ : ByteArray) ++ ⟨#[32]⟩) (by rw [hsz2]; omega) (by rw [e]; exact ih2))
            simp only [freshetref13_Show.j1]
            rw [if_pos trivial, if_pos (show (i : Int) > 0 by omega), if_pos (show (⟨(joinW ((L.take i).map wT)).toArray⟩ : ByteArray).size + 1 ≤ 9223372036854775807 by omega)]
        refine Ev.step (fun k => ?_) J1
        have hx : (L[i].f0 != 0) = true := hnz
        simp only [freshetref13_Show.l0]
        rw [if_pos q1, if_pos q2, hr, hx]
  have h := main L.length 0 (by omega) (fun t ht => by simp at ht)
  rw [List.take_zero, List.nil_append, List.drop_zero] at h
  unfold freshetref13_Show.f
  exact h

end Go.Proofs.YtlaafpbhhnehgaaDoor

namespace Go.Proofs.YtlaafpbhhnehgaaDoor
set_option linter.unusedVariables false
set_option linter.unusedSimpArgs false
open Go.RowKit Go.ChangeShapes Go.WideShapes Go.Deep Go.Proofs.YtlaafpbhhnehgaaDoorW.PrintWords Go.Proofs.YtlaafpbhhnehgaaDoorW.PrintLast PLX

theorem shows_ev (L : List S34) (hL : L.length ≤ 1048576) (hs : ∀ t ∈ L, t.f1.size ≤ 1048576) : Ev (fun k => freshetlaw13_LexShows.f k L) true := by
  unfold freshetlaw13_LexShows.f
  refine Ev.bind awake_ev (Ev.congr (fun k => by rw [if_pos rfl]) (Ev.bind (show_gen L hL hs) (Ev.bind (rshow_ev L hL hs) (Ev.congr (fun k => ?_) (Ev.now true)))))
  simp

theorem walkLexShows (A : Option Addr) (c : Nat) (L : List S34) (w : World) (hr : Kd.C k34 w A L.length L) (hc : L.length ≤ c) (hL : L.length ≤ 1048576) (hs : ∀ t ∈ L, t.f1.size ≤ 1048576) (ht : Tab w) :
    Calls Tryd.prog 5 #[.slice A L.length c] w fun e w' => e = .returned (.bool true) ∧ Below w.heap.size w w' := by
  obtain ⟨k, hk⟩ := (shows_ev L hL hs).rounds
  exact freshetlaw13_LexShows.calls k A c L true w hr hc ht hk

theorem laidOut : laidOutB Tryd.prog = true := by kernel_rfl

section
variable {H : Type} {enc : TypeId × Value → H}
theorem bulk_part {d : DataW H} {l : List (DataW H)} (h : d ∈ l) : Rows.uptoBulk d ≤ Rows.uptoBulkAll l := by
  induction l with
  | nil => cases h
  | cons x r ih =>
    simp only [Rows.uptoBulkAll]
    cases List.mem_cons.1 h with
    | inl e => subst e; omega
    | inr e => have := ih e; omega
theorem bulk_one (d : DataW H) : 1 ≤ Rows.uptoBulk d := by
  cases d with
  | lit l => cases l <;> simp [Rows.uptoBulk]
  | nil => simp [Rows.uptoBulk]
  | ptr d => simp [Rows.uptoBulk]
  | slice elems spare => simp [Rows.uptoBulk]
  | agg parts => simp [Rows.uptoBulk]
  | iface t d => simp [Rows.uptoBulk]
  | map entries => simp [Rows.uptoBulk]
  | held h => simp [Rows.uptoBulk]
theorem bulk_len (l : List (DataW H)) : l.length ≤ Rows.uptoBulkAll l := by
  induction l with
  | nil => simp [Rows.uptoBulkAll]
  | cons x r ih => have := bulk_one x; simp only [Rows.uptoBulkAll, List.length_cons]; omega

theorem rowNil (W : World) : Kd.C k34 W none ([] : List S34).length [] := by
  refine ⟨rfl, ?_, fun h => ?_⟩
  · rw [List.length_nil]; omega
  · rw [List.length_nil] at h; omega
theorem len3 {α : Type} {l : List α} (h : l.length = 3) : ∃ a b c, l = [a, b, c] := by
  match l, h with
  | [a, b, c], _ => exact ⟨a, b, c, rfl⟩
theorem open_tok {W : World} {sp : Nat → Bool} {n : Nat} {cs : List Value} {x : DataW H × List MemPlace} (h : DataW.trod enc Tryd.prog W 0 sp true n 34 cs = some x) :
    ∃ t : S34, k34.K W t cs ∧ t.f1.size + 1 ≤ Rows.uptoBulk x.1 := by
  obtain ⟨y0, y1, y2, m, rfl, hl, h0, h1, h2⟩ := trod_struct3 Tryd.underlying34 h
  obtain ⟨a, e0, rfl, _⟩ := DataW.trod_int Tryd.underlying3 h0
  obtain ⟨s, e1, rfl, _⟩ := DataW.trod_string Tryd.underlying9 h1
  obtain ⟨b, e2, rfl, _⟩ := DataW.trod_int Tryd.underlying3 h2
  have hc3 : Tryd.prog.cellsOf 34 = 3 := by kernel_rfl
  have hc1 : Tryd.prog.cellsOf 3 = 1 := by kernel_rfl
  have hc2 : Tryd.prog.cellsOf 9 = 1 := by kernel_rfl
  rw [hc3] at hl
  obtain ⟨u0, u1, u2, hu⟩ := len3 hl
  rw [hu, hc1] at e0 e2
  rw [hu, hc2] at e1
  obtain rfl : u0 = .int .i64 a := (List.cons.inj e0).1
  obtain rfl : u1 = .string s := (List.cons.inj e1).1
  obtain rfl : u2 = .int .i64 b := (List.cons.inj e2).1
  rw [hu]
  refine ⟨⟨a, s, b⟩, k34_mk W ⟨a, s, b⟩, ?_⟩
  have h3 : Rows.uptoBulk (DataW.lit (H := H) (.string s.data.toList)) = s.size + 1 := by
    rw [Rows.uptoBulk, Array.length_toList]; rfl
  have h4 := bulk_part (d := DataW.lit (H := H) (.string s.data.toList)) (l := [.lit (.int .i64 a), .lit (.string s.data.toList), .lit (.int .i64 b)]) (List.mem_cons_of_mem _ (List.mem_cons_self))
  show s.size + 1 ≤ Rows.uptoBulk (DataW.agg [.lit (.int .i64 a), .lit (.string s.data.toList), .lit (.int .i64 b)])
  rw [Rows.uptoBulk]
  omega

set_option maxRecDepth 100000 in
theorem open_toks {W : World} {base : Nat} {v : Value} {d : DataW H} {p : List MemPlace} (hv : Value.okWide Tryd.prog W .any base 23 v)
    (h : DataW.Trod enc Tryd.prog W 0 (fun _ => true) true 23 v d p) :
    ∃ (A : Option Addr) (c : Nat) (L : List S34), v = Value.slice A L.length c ∧ L.length ≤ c ∧ Kd.C k34 W A L.length L ∧ L.length ≤ Rows.uptoBulk d ∧ (∀ t ∈ L, t.f1.size ≤ Rows.uptoBulk d) := by
  obtain ⟨A, len, cap, rfl⟩ := okWide_slice Tryd.underlying23 hv
  obtain ⟨fuel, hf⟩ := h
  rcases open_slice Tryd.underlying23 hf with ⟨hcs, hx⟩ | ⟨ad, l, c, m, n, D, Pl, hcs, _, hl, hm, hmm, hx, he⟩
  · simp [Value.cells] at hcs
    obtain ⟨rfl, rfl, rfl⟩ := hcs
    exact ⟨none, 0, [], rfl, Nat.le_refl _, rowNil W, Nat.zero_le _, fun t ht => absurd ht List.not_mem_nil⟩
  · simp [Value.cells] at hcs
    obtain ⟨rfl, rfl, rfl⟩ := hcs
    have hd : d = .slice ((List.range len).map D) ((List.range (m - len)).map fun j => D (len + j)) := (Prod.mk.inj hx).1
    have hc3 : Tryd.prog.cellsOf 34 = 3 := by kernel_rfl
    have hml : len ≤ m := by rw [hmm]; split <;> omega
    have hbl : Rows.uptoBulkAll ((List.range len).map D) ≤ Rows.uptoBulk d := by rw [hd]; simp only [Rows.uptoBulk]; omega
    have key : ∀ i, i < len → ∃ t : S34, t.f1.size ≤ Rows.uptoBulk d ∧ ∃ cs, cs.length = 3 ∧ k34.K W t cs ∧ ∀ j u, cs[j]? = some u → W.cell? (ad.add (i * 3 + j)) = some u := by
      intro i hi
      obtain ⟨cs, h1, h2⟩ := he i (by omega)
      obtain ⟨t, hk, ht⟩ := open_tok h2
      have hb := bulk_part (d := D i) (l := (List.range len).map D) (List.mem_map.2 ⟨i, List.mem_range.2 hi, rfl⟩)
      simp only at ht
      rw [hc3] at h1
      obtain ⟨_, hlen, hcell⟩ := World.cells?_some h1
      refine ⟨t, by omega, cs, hlen, hk, fun j u hu => ?_⟩
      have hj : j < 3 := by rw [← hlen]; exact (List.getElem?_eq_some_iff.1 hu).1
      have := hcell j hj
      rw [Deep.add_add, hu] at this
      exact this
    haveI : Inhabited S34 := ⟨z34⟩
    obtain ⟨F, hF⟩ := choose_lt (α := S34) key
    have hLl : ((List.range len).map F).length = len := by simp
    refine ⟨some ad, cap, (List.range len).map F, by rw [hLl], by rw [hLl]; exact hl, ?_, ?_, ?_⟩
    · refine ⟨rfl, by rw [hLl]; unfold maxLen at hm; omega, fun _ => ⟨ad, rfl, fun j p hj => ?_⟩⟩
      have hjl : j < len := by rw [← hLl]; exact (List.getElem?_eq_some_iff.1 hj).1
      have : p = F j := by simpa [hjl] using hj.symm
      subst this
      obtain ⟨_, cs, h1, h2, h3⟩ := hF j hjl
      exact ⟨cs, h1, h2, h3⟩
    · rw [hLl]
      have := bulk_len ((List.range len).map D)
      rw [List.length_map, List.length_range] at this
      omega
    · intro t ht
      obtain ⟨i, hi, rfl⟩ := List.mem_map.1 ht
      exact (hF i (List.mem_range.1 hi)).1
end

end Go.Proofs.YtlaafpbhhnehgaaDoor
