/- RowForms, in plain words. -/
import Derived.Test.YthpkjkcfhipjhaaGreatDoorRQ6
import Derived.Test.YthpkjkcfhipjhaaGreatDoorPRFx
import Derived.Lib.ItoaLen
namespace Go.Proofs.YthpkjkcfhipjhaaGreatDoor
set_option linter.unusedVariables false
set_option linter.unusedSimpArgs false
open Go.RowKit Go.Proofs.YthpkjkcfhipjhaaGreatDoorW.PrintWords Go.Proofs.YthpkjkcfhipjhaaGreatDoorW.PrintLast PRW PRF

def shV (x : S64) : List UInt8 := showL x.f0 x.f1 x.f2 x.f3
def showR (l : List S64) : List UInt8 := if soundL l then 40 :: (Lib.join (l.map shV) [44, 32] ++ [41]) else []

theorem hexP_length : ∀ n u, (hexP n u).length = n
  | 0, _ => rfl
  | n + 1, u => by simp [hexP, hexP_length n]
theorem shV_len (x : S64) (hn : I64 x.f1) : (shV x).length ≤ 16386 := by
  unfold shV showL
  cases hs : soundV x.f0 x.f1 x.f2 x.f3
  · simp
  · simp only [Bool.not_true, Bool.false_eq_true, if_false]
    by_cases h0 : x.f0 = 0
    · rw [if_pos h0]; decide
    · rw [if_neg h0]
      by_cases h1 : x.f0 = 1
      · rw [if_pos h1]; cases (x.f1 == 1) <;> decide
      · rw [if_neg h1]
        by_cases h2 : x.f0 = 2
        · rw [if_pos h2]
          have := Lib.itoa_length_le x.f1 hn.1 hn.2
          omega
        · rw [if_neg h2]
          by_cases h4 : x.f0 = 4
          · rw [if_pos h4]
            have e := hs
            rw [h4] at e
            simp [soundV, eqV] at e
            have h5 := escs_len x.f3.data.toList
            have h6 := Lib.size_eq x.f3
            unfold quotedL
            rw [List.length_cons, List.length_append]
            have e4 := e.2
            simp only [List.length_cons, List.length_nil]
            omega
          · rw [if_neg h4, List.length_append, hexP_length]; decide

theorem join_snoc (xs : List (List UInt8)) (x sep : List UInt8) (h : xs ≠ []) : Lib.join (xs ++ [x]) sep = Lib.join xs sep ++ sep ++ x := by
  cases xs with
  | nil => exact absurd rfl h
  | cons y r => rw [List.cons_append, Lib.join_cons, Lib.join_cons]; simp [Lib.joinTail]
theorem jt_len (B : Nat) : ∀ r : List (List UInt8), (∀ x ∈ r, x.length ≤ B) → (Lib.joinTail [44, 32] r).length ≤ (B + 2) * r.length
  | [], _ => by simp [Lib.joinTail]
  | y :: r, h => by
    have ih := jt_len B r (fun x hx => h x (List.mem_cons_of_mem _ hx))
    have hy := h y List.mem_cons_self
    have e : Lib.joinTail [44, 32] (y :: r) = [44, 32] ++ y ++ Lib.joinTail [44, 32] r := by simp [Lib.joinTail]
    rw [e, List.length_append, List.length_append, show (y :: r).length = r.length + 1 from rfl, Nat.mul_succ]
    simp only [List.length_cons, List.length_nil]
    omega
theorem join_le (B : Nat) (xs : List (List UInt8)) (h : ∀ x ∈ xs, x.length ≤ B) : (Lib.join xs [44, 32]).length ≤ (B + 2) * xs.length := by
  cases xs with
  | nil => simp [Lib.join_nil]
  | cons y r =>
    have h1 := jt_len B r (fun x hx => h x (List.mem_cons_of_mem _ hx))
    have hy := h y List.mem_cons_self
    rw [Lib.join_cons, List.length_append, List.length_cons, Nat.mul_succ]
    omega

theorem shows_le (l : List S64) (hr : rngL l = true) (n : Nat) : (Lib.join ((l.take n).map shV) [44, 32]).length ≤ 16388 * l.length := by
  have h := join_le 16386 ((l.take n).map shV) (fun x hx => by
    obtain ⟨y, hy, rfl⟩ := List.mem_map.1 hx
    exact shV_len y (rngL_I hr y (List.mem_of_mem_take hy)))
  rw [List.length_map, List.length_take] at h
  refine Nat.le_trans h (Nat.mul_le_mul_left _ (Nat.min_le_right _ _))

theorem show_ev (l : List S64) (hr : rngL l = true) : Ev (fun k => row_Show.f k l) (bs (showR l)) := by
  have hS : xRowSound.f l = some (soundL l) := by unfold xRowSound.f; rw [if_pos hr]
  cases hs : soundL l
  · have e : showR l = [] := by unfold showR; rw [hs]; rfl
    rw [e]
    refine Ev.congr (f := fun _ => some _) (fun k => ?_) (Ev.now _)
    simp only [row_Show.f]
    rw [hS, hs, Option.bind_some, if_neg Bool.false_ne_true]; rfl
  · have e : showR l = 40 :: (Lib.join (l.map shV) [44, 32] ++ [41]) := by unfold showR; rw [hs]; rfl
    rw [e]
    have nl := (sound_all hs hr).2
    have main : ∀ d i : Nat, i + d = l.length → Ev (fun k => row_Show.l0 k ((l.take i).map fun x => bs (shV x)) l (l.length : Int) (i : Int)) (bs (40 :: (Lib.join (l.map shV) [44, 32] ++ [41]))) := by
      intro d
      induction d with
      | zero =>
        intro i hi
        rw [List.take_of_length_le (by omega)]
        have hj := shows_le l hr l.length
        rw [List.take_of_length_le (by omega)] at hj
        have em : (l.map fun x => bs (shV x)).map (·.data.toList) = l.map shV := by rw [List.map_map]; rfl
        have hx : xJoin.f (l.map fun x => bs (shV x)) ⟨#[44, 32]⟩ = some (bs (Lib.join (l.map shV) [44, 32])) := by
          unfold xJoin.f
          rw [em, if_pos ⟨by rw [List.length_map]; omega, by show (Lib.join (l.map shV) [44, 32]).length ≤ _; omega⟩]; rfl
        refine Ev.step (f := fun _ => some _) (fun k => ?_) (Ev.now _)
        simp only [row_Show.l0]
        rw [if_neg (by omega), hx, Option.bind_some, if_pos (by rw [bs_size]; omega), if_pos (by rw [ByteArray.size_append, bs_size]; show 1 + _ + 1 ≤ _; omega)]
        congr 1
      | succ d ih =>
        intro i hi
        have h1 : i < l.length := by omega
        have hm := List.getElem_mem h1
        have hx : xShow.f (l[i]).f0 (l[i]).f1 (l[i]).f2 (l[i]).f3 = some (bs (shV l[i])) := by unfold xShow.f; exact if_pos ⟨rngL_I hr _ hm, rngL_U hr _ hm⟩
        have ih2 := ih (i + 1) (by omega)
        rw [List.take_succ_eq_append_getElem h1, List.map_append] at ih2
        refine Ev.step (fun k => ?_) ih2
        simp only [row_Show.l0]
        rw [if_pos (by omega), if_pos (by omega), if_pos (by omega), rd_at l i h1, hx, Option.bind_some, if_pos (by rw [List.length_map, List.length_take]; omega), w64k (by omega) (by omega)]
        rfl
    refine Ev.congr (fun k => ?_) (main l.length 0 (by omega))
    simp only [row_Show.f]
    rw [hS, hs, Option.bind_some, if_pos rfl, if_pos (by omega), if_pos (by omega)]; rfl

theorem bs_app2 (a b : List UInt8) : bs a ++ bs b = bs (a ++ b) := by apply ByteArray.ext; simp [bs]

theorem rshow_ev (l : List S64) (hr : rngL l = true) : Ev (fun k => freshetref02_Show.f k l) (bs (showR l)) := by
  have h := rsound_ev l hr
  cases hs : soundL l
  · have e : showR l = [] := by unfold showR; rw [hs]; rfl
    rw [e]
    rw [hs] at h
    refine Ev.bind h (Ev.congr (f := fun _ => some _) (fun k => ?_) (Ev.now _))
    rw [if_neg Bool.false_ne_true]; rfl
  · have e : showR l = 40 :: (Lib.join (l.map shV) [44, 32] ++ [41]) := by unfold showR; rw [hs]; rfl
    rw [e]
    rw [hs] at h
    have nl := (sound_all hs hr).2
    have main : ∀ d i : Nat, i + d = l.length → Ev (fun k => freshetref02_Show.l0 k l (bs (40 :: Lib.join ((l.take i).map shV) [44, 32])) (i : Int)) (bs (40 :: (Lib.join (l.map shV) [44, 32] ++ [41]))) := by
      intro d
      induction d with
      | zero =>
        intro i hi
        rw [List.take_of_length_le (by omega)]
        have hj := shows_le l hr l.length
        rw [List.take_of_length_le (by omega)] at hj
        refine Ev.step (f := fun _ => some _) (fun k => ?_) (Ev.now _)
        simp only [freshetref02_Show.l0]
        rw [if_neg (by omega), if_pos (by rw [bs_size, List.length_cons]; omega)]
        congr 1
      | succ d ih =>
        intro i hi
        have h1 : i < l.length := by omega
        have hm := List.getElem_mem h1
        have hx : xrShow.f (l[i]).f0 (l[i]).f1 (l[i]).f2 (l[i]).f3 = some (bs (shV l[i])) := by unfold xrShow.f; exact if_pos ⟨rngL_I hr _ hm, rngL_U hr _ hm⟩
        have ih2 := ih (i + 1) (by omega)
        have hj := shows_le l hr i
        have hv := shV_len l[i] (rngL_I hr _ hm)
        by_cases h0 : i = 0
        · subst h0
          have e1 : bs (40 :: Lib.join ((l.take (0 + 1)).map shV) [44, 32]) = bs (40 :: Lib.join ((l.take 0).map shV) [44, 32]) ++ bs (shV l[0]) := by
            rw [List.take_succ_eq_append_getElem h1, bs_app2]
            simp [Lib.join_one, Lib.join_nil]
          rw [e1] at ih2
          refine Ev.step (fun k => ?_) ih2
          simp only [freshetref02_Show.l0]
          rw [if_pos (by omega), if_neg (by omega), if_pos (by omega), rd_at l 0 h1, hx, Option.bind_some, if_pos (by rw [bs_size, bs_size, List.length_cons]; omega), w64k (by omega) (by omega)]
          rfl
        · have e1 : bs (40 :: Lib.join ((l.take (i + 1)).map shV) [44, 32]) = (bs (40 :: Lib.join ((l.take i).map shV) [44, 32]) ++ ⟨#[44, 32]⟩) ++ bs (shV l[i]) := by
            rw [List.take_succ_eq_append_getElem h1, List.map_append]
            have hne : (l.take i).map shV ≠ [] := by
              intro h
              have := congrArg List.length h
              rw [List.length_map, List.length_take, List.length_nil] at this
              omega
            have : Lib.join ((l.take i).map shV ++ [l[i]].map shV) [44, 32] = Lib.join ((l.take i).map shV) [44, 32] ++ [44, 32] ++ shV l[i] := join_snoc _ _ _ hne
            rw [this, show (⟨#[44, 32]⟩ : ByteArray) = bs [44, 32] from rfl, bs_app2, bs_app2]; rfl
          rw [e1] at ih2
          refine Ev.step (fun k => ?_) ih2
          simp only [freshetref02_Show.l0]
          rw [if_pos (by omega), if_pos (by omega), if_pos (by rw [bs_size, List.length_cons]; omega), if_pos (by omega), rd_at l i h1, hx, Option.bind_some, if_pos (by rw [ByteArray.size_append, bs_size, bs_size, List.length_cons]; show _ + 1 + 2 + _ ≤ _; omega), w64k (by omega) (by omega)]
          rfl
    refine Ev.bind h (Ev.congr (fun k => ?_) (main l.length 0 (by omega)))
    rw [if_pos rfl]; rfl

theorem evc {α : Type} {x : Option α} {a : α} (h : x = some a) : Ev (fun _ => x) a := by rw [h]; exact Ev.now a

theorem forms_ev (l m : List S64) (cols : List Int) (hl : rngL l = true) (hm : rngL m = true) : Ev (fun k => freshetlaw02_RowForms.f k l m cols) true := by
  have hE : xEncode.f l = some (encP l) := by unfold xEncode.f; rw [if_pos hl]
  have hS : xRowSound.f l = some (soundL l) := by unfold xRowSound.f; rw [if_pos hl]
  have hC : xRowCompare.f l m = some (cmpLS l m) := by unfold xRowCompare.f; rw [if_pos ⟨hl, hm⟩]
  have Jt : Ev (fun k => freshetlaw02_RowForms.j0 k l m cols true) true := by
    refine Ev.step (f := fun _ => some true) (fun k => ?_) (Ev.now _)
    simp only [freshetlaw02_RowForms.j0, if_true]
  have hpl : (pickP l cols).1.length ≤ 9223372036854775806 := by
    unfold pickP pickC
    by_cases hc : cols.length ≤ 1024
    · split
      · split
        · rw [List.length_map]; omega
        · simp
      · simp
    · rw [decide_eq_false hc, Bool.and_false]; simp
  have hsame := same_ev (pickP l cols).1 (pickP l cols).1 hpl
  rw [decide_eq_true rfl] at hsame
  have J : Ev (fun k => freshetlaw02_RowForms.j0 k l m cols false) true := by
    refine Ev.step (fun k => by simp only [freshetlaw02_RowForms.j0, Bool.false_eq_true, if_false]; rfl) ?_
    refine Ev.bind (evc hE) (Ev.bind (renc_ev l hl) (Ev.bind (pick_ev l cols hl) (Ev.bind (rpick_ev l cols hl) (Ev.bind (evc hS) (Ev.bind (rsound_ev l hl) ?_)))))
    simp only [beq_self_eq_true, if_true]
    refine Ev.bind (evc hC) (Ev.bind (rcmp_ev l m hl hm) ?_)
    simp only [if_true]
    refine Ev.bind hsame ?_
    simp only [if_true]
    refine Ev.bind (show_ev l hl) (Ev.bind (rshow_ev l hl) ?_)
    simp only [beq_self_eq_true]
    exact Ev.now _
  by_cases g : (l.length : Int) > 1100
  · refine Ev.congr (fun k => ?_) Jt
    simp only [freshetlaw02_RowForms.f, xAwake2.f, Option.bind_some]
    rw [if_pos trivial, if_pos g]
  · by_cases g2 : (m.length : Int) > 1100
    · refine Ev.congr (fun k => ?_) Jt
      simp only [freshetlaw02_RowForms.f, xAwake2.f, Option.bind_some]
      rw [if_pos trivial, if_neg g, decide_eq_true g2]
    · refine Ev.congr (fun k => ?_) J
      simp only [freshetlaw02_RowForms.f, xAwake2.f, Option.bind_some]
      rw [if_pos trivial, if_neg g, decide_eq_false g2]

theorem walkRowForms (w : World) (A0 : Option Addr) (c0 : Nat) (L0 : List S64) (hc0 : L0.length ≤ c0) (hr0 : Kd.C k64 w A0 L0.length L0) (hg0 : rngL L0 = true) (A1 : Option Addr) (c1 : Nat) (L1 : List S64) (hc1 : L1.length ≤ c1) (hr1 : Kd.C k64 w A1 L1.length L1) (hg1 : rngL L1 = true)
    (A2 : Option Addr) (c2 : Nat) (L2 : List Int) (hc2 : L2.length ≤ c2) (hr2 : Kd.C (Kd.int .i64) w A2 L2.length L2) (hg2 : ∀ x ∈ L2, I64 x) (ht : RTab w) :
    Calls Tryz.prog 5 #[.slice A0 L0.length c0, .slice A1 L1.length c1, .slice A2 L2.length c2] w fun e w' => e = .returned (.bool true) ∧ Below w.heap.size w w' := by
  obtain ⟨k, hk⟩ := (forms_ev L0 L1 L2 hg0 hg1).rounds
  exact freshetlaw02_RowForms.calls k A0 c0 L0 A1 c1 L1 A2 c2 L2 true w hr0 hc0 hr1 hc1 hr2 hc2 ht hk

end Go.Proofs.YthpkjkcfhipjhaaGreatDoor
