/- The document's functions on names, in plain words. -/
import Derived.Test.YtlaafpbhhnehgaaDoorLN1
import Derived.Test.YtlaafpbhhnehgaaDoorPLXx
namespace Go.Proofs.YtlaafpbhhnehgaaDoor
set_option linter.unusedVariables false
set_option linter.unusedSimpArgs false
open Go.RowKit Go.Proofs.YtlaafpbhhnehgaaDoorW.PrintWords Go.Proofs.YtlaafpbhhnehgaaDoorW.PrintLast PLX

def numsL (l : List UInt8) : List Int := l.map fun b => (b.toNat : Int)
theorem numsL_len (l : List UInt8) : (numsL l).length = l.length := by simp [numsL]
theorem numsL_app (l m : List UInt8) : numsL (l ++ m) = numsL l ++ numsL m := by simp [numsL]
theorem strOf_numsL (l : List UInt8) : strOfNums (numsL l) = ⟨l.toArray⟩ := by
  unfold strOfNums numsL
  rw [List.map_map]
  have : l.map ((fun n : Int => UInt8.ofNat n.toNat) ∘ fun b : UInt8 => (b.toNat : Int)) = l := by induction l <;> simp_all
  rw [this]
theorem w64i {n : Int} (h0 : -9223372036854775808 ≤ n) (h1 : n ≤ 9223372036854775807) : wrap64 n = n := by unfold wrap64; omega
theorem w64s {i : Nat} (h : i ≤ 140737488355328) : wrap64 ((i : Int) + 1) = ((i + 1 : Nat) : Int) := by rw [w64i (by omega) (by omega)]; omega
theorem bt_at_nat (s : ByteArray) (k : Nat) (h : k < s.size) : bt s (k : Int) = (s[k].toNat : Int) := by
  unfold bt; rw [dif_pos (by simpa using h)]; rfl

theorem isName_ev (s : ByteArray) (hs : s.size ≤ 140737488355328) : Ev (fun k => freshetref13_IsName.f k s) (nameP s.data.toList) := by
  have hl : s.data.toList.length = s.size := (Lib.size_eq s).symm
  obtain ⟨T, hT⟩ : ∃ T, (decide (1 ≤ s.data.toList.length) && decide (s.data.toList.length ≤ 32) && (s.data.toList.head? != some 64)) = T := ⟨_, rfl⟩
  have main : ∀ d i : Nat, i + d = s.size → Ev (fun k => freshetref13_IsName.l0 k s (i : Int)) (T && (s.data.toList.drop i).all okB) := by
    intro d
    induction d with
    | zero =>
      intro i hi
      rw [List.drop_of_length_le (by omega), List.all_nil, Bool.and_true]
      refine Ev.step (f := fun _ => some T) (fun k => ?_) (Ev.now _)
      simp only [freshetref13_IsName.l0]
      rw [if_neg (show ¬ (i : Int) < (s.size : Int) by omega)]
      rw [← hT]
      by_cases h1 : 1 ≤ s.size
      · rw [if_pos (show (s.size : Int) ≥ 1 by omega)]
        by_cases h2 : s.size ≤ 32
        · rw [if_pos (show (s.size : Int) ≤ 32 by omega), if_pos (show 0 < (s.size : Int) by omega)]
          have hb := bt_at_nat s 0 (by omega)
          rw [show ((0 : Nat) : Int) = 0 from rfl] at hb
          have hg := get_lt (show 0 < s.size by omega)
          rw [List.drop_zero] at hg
          rw [hb, hl, hg]
          have h64 : (((s[0].toNat : Int)) != 64) = (s[0] != 64) := by
            rw [Bool.eq_iff_iff]
            simp only [bne_iff_ne, ne_eq, ← UInt8.toNat_inj]
            show ¬ ((s[0].toNat : Int) = 64) ↔ ¬ s[0].toNat = 64
            omega
          have hh : ((s[0] :: s.data.toList.drop (0 + 1)).head? != some 64) = (s[0] != 64) := by rw [Bool.eq_iff_iff]; simp
          rw [h64, hh, decide_eq_true h1, decide_eq_true h2]; rfl
        · rw [if_neg (show ¬ (s.size : Int) ≤ 32 by omega), hl, decide_eq_false h2]; simp
      · rw [if_neg (show ¬ (s.size : Int) ≥ 1 by omega), hl, decide_eq_false h1]; simp
    | succ d ih =>
      intro i hi
      have hlt : i < s.size := by omega
      rw [get_lt hlt, List.all_cons]
      have hb := bt_at_nat s i hlt
      have hu := (s[i]).toNat_lt
      by_cases h1 : 32 ≤ (s[i]).toNat
      · by_cases h2 : (s[i]).toNat ≤ 126
        · have hok : okB s[i] = true := by unfold okB; rw [decide_eq_true h1, decide_eq_true h2]; rfl
          rw [hok, Bool.true_and]
          refine Ev.step (fun k => ?_) (ih (i + 1) (by omega))
          simp only [freshetref13_IsName.l0]
          rw [if_pos (show (i : Int) < (s.size : Int) by omega), if_pos (show 0 ≤ (i : Int) by omega), hb, if_neg (show ¬ ((s[i]).toNat : Int) < 32 by omega), if_neg (show ¬ ((s[i]).toNat : Int) > 126 by omega), w64s (by omega)]
        · have hok : okB s[i] = false := by unfold okB; rw [decide_eq_false h2]; simp
          rw [hok, Bool.false_and, Bool.and_false]
          refine Ev.step (f := fun _ => some false) (fun k => ?_) (Ev.now _)
          simp only [freshetref13_IsName.l0]
          rw [if_pos (show (i : Int) < (s.size : Int) by omega), if_pos (show 0 ≤ (i : Int) by omega), hb, if_neg (show ¬ ((s[i]).toNat : Int) < 32 by omega), if_pos (show ((s[i]).toNat : Int) > 126 by omega)]
      · have hok : okB s[i] = false := by unfold okB; rw [decide_eq_false h1]; simp
        rw [hok, Bool.false_and, Bool.and_false]
        refine Ev.step (f := fun _ => some false) (fun k => ?_) (Ev.now _)
        simp only [freshetref13_IsName.l0]
        rw [if_pos (show (i : Int) < (s.size : Int) by omega), if_pos (show 0 ≤ (i : Int) by omega), hb, if_pos (show ((s[i]).toNat : Int) < 32 by omega)]
  have h := main s.size 0 (by omega)
  rw [List.drop_zero, ← hT] at h
  exact h

theorem upperB_nat (b : UInt8) : ((Lib.upperB b).toNat : Int) = if 97 ≤ b.toNat ∧ b.toNat ≤ 122 then (b.toNat : Int) - 32 else b.toNat := by
  have : ∀ n : Fin 256, ((Lib.upperB (UInt8.ofNat n.1)).toNat : Int) = if 97 ≤ n.1 ∧ n.1 ≤ 122 then (n.1 : Int) - 32 else n.1 := by decide +kernel
  have h := this ⟨b.toNat, b.toNat_lt⟩
  simpa using h

theorem cased_ev (s : ByteArray) (hs : s.size ≤ 100000) : Ev (fun k => freshetref13_cased.f k s false) ⟨(Lib.toUpperA s.data.toList).toArray⟩ := by
  have hl : s.data.toList.length = s.size := (Lib.size_eq s).symm
  have main : ∀ d i : Nat, i + d = s.size → Ev (fun k => freshetref13_cased.l0 k s false (numsL (Lib.toUpperA (s.data.toList.take i))) (i : Int)) ⟨(Lib.toUpperA s.data.toList).toArray⟩ := by
    intro d
    induction d with
    | zero =>
      intro i hi
      rw [List.take_of_length_le (by omega), ← strOf_numsL]
      refine Ev.step (f := fun _ => some _) (fun k => ?_) (Ev.now _)
      simp only [freshetref13_cased.l0]
      rw [if_neg (show ¬ (i : Int) < (s.size : Int) by omega)]
    | succ d ih =>
      intro i hi
      have hlt : i < s.size := by omega
      have hb := bt_at_nat s i hlt
      have hu := (s[i]).toNat_lt
      have hup := upperB_nat s[i]
      have ht : numsL (Lib.toUpperA (s.data.toList.take (i + 1))) = numsL (Lib.toUpperA (s.data.toList.take i)) ++ [((Lib.upperB s[i]).toNat : Int)] := by
        have : s.data.toList.take (i + 1) = s.data.toList.take i ++ [s[i]] := by
          rw [List.take_succ_eq_append_getElem (by omega)]; rfl
        rw [this]; simp [Lib.toUpperA, numsL]
      have hn : (numsL (Lib.toUpperA (s.data.toList.take i))).length < 140737488355328 := by
        rw [numsL_len]; simp only [Lib.toUpperA, List.length_map, List.length_take]; omega
      have ih2 := ih (i + 1) (by omega)
      rw [ht] at ih2
      have J : Ev (fun k => freshetref13_cased.j1 k s false (numsL (Lib.toUpperA (s.data.toList.take i))) (i : Int) ((s[i]).toNat : Int) false) ⟨(Lib.toUpperA s.data.toList).toArray⟩ := by
        refine Ev.step (fun k => ?_) ih2
        simp only [freshetref13_cased.j1]
        rw [if_neg Bool.false_ne_true, if_neg Bool.false_ne_true, hup]
        by_cases h1 : 97 ≤ (s[i]).toNat
        · by_cases h2 : (s[i]).toNat ≤ 122
          · rw [if_pos (show ((s[i]).toNat : Int) ≥ 97 by omega), if_pos (show ((s[i]).toNat : Int) ≤ 122 by omega), if_pos hn, if_pos ⟨h1, h2⟩, w64s (by omega), show (((s[i]).toNat : Int) - 32) % 256 = ((s[i]).toNat : Int) - 32 by omega]
          · rw [if_pos (show ((s[i]).toNat : Int) ≥ 97 by omega), if_neg (show ¬ ((s[i]).toNat : Int) ≤ 122 by omega), if_pos hn, if_neg (fun h => h2 h.2), w64s (by omega)]
        · rw [if_neg (show ¬ ((s[i]).toNat : Int) ≥ 97 by omega), if_pos hn, if_neg (fun h => h1 h.1), w64s (by omega)]
      refine Ev.step (fun k => ?_) J
      simp only [freshetref13_cased.l0]
      rw [if_pos (show (i : Int) < (s.size : Int) by omega), if_pos (show 0 ≤ (i : Int) by omega), if_neg Bool.false_ne_true, hb]
  exact main s.size 0 (by omega)

theorem dbl_app (q : UInt8) : ∀ a b : List UInt8, dbl q (a ++ b) = dbl q a ++ dbl q b
  | [], _ => rfl
  | c :: t, b => by
    rw [List.cons_append, dbl, dbl]
    split <;> simp [dbl_app q t b]

theorem quoted_ev (s : ByteArray) (hs : s.size ≤ 100000000) (q : UInt8) : Ev (fun k => freshetref13_quoted.f k s (q.toNat : Int)) ⟨(quoteL q s.data.toList).toArray⟩ := by
  have hl : s.data.toList.length = s.size := (Lib.size_eq s).symm
  have main : ∀ d i : Nat, i + d = s.size → Ev (fun k => freshetref13_quoted.l0 k s (q.toNat : Int) (numsL (q :: dbl q (s.data.toList.take i))) (i : Int)) ⟨(quoteL q s.data.toList).toArray⟩ := by
    intro d
    induction d with
    | zero =>
      intro i hi
      rw [List.take_of_length_le (by omega)]
      have hq : numsL (q :: dbl q s.data.toList) ++ [(q.toNat : Int)] = numsL (quoteL q s.data.toList) := by simp [numsL, quoteL]
      have hn : (numsL (q :: dbl q s.data.toList)).length < 140737488355328 := by
        rw [numsL_len, List.length_cons]; have := dbl_len q s.data.toList; omega
      rw [← strOf_numsL]
      refine Ev.step (f := fun _ => some _) (fun k => ?_) (Ev.now _)
      simp only [freshetref13_quoted.l0]
      rw [if_neg (show ¬ (i : Int) < (s.size : Int) by omega), if_pos hn, hq]
    | succ d ih =>
      intro i hi
      have hlt : i < s.size := by omega
      have hb := bt_at_nat s i hlt
      have hu := (s[i]).toNat_lt
      have htk : s.data.toList.take (i + 1) = s.data.toList.take i ++ [s[i]] := by
        rw [List.take_succ_eq_append_getElem (by omega)]; rfl
      have hdl := dbl_len q (s.data.toList.take i)
      rw [List.length_take] at hdl
      have hn : (numsL (q :: dbl q (s.data.toList.take i))).length < 140737488355328 := by
        rw [numsL_len, List.length_cons]; omega
      have hw : wrap64 ((i : Int) + 1) = ((i + 1 : Nat) : Int) := by rw [w64i (by omega) (by omega)]; omega
      have ih2 := ih (i + 1) (by omega)
      rw [htk, dbl_app] at ih2
      by_cases hc : s[i] = q
      · have hd : dbl q [s[i]] = [q, q] := by rw [hc]; simp [dbl]
        have he : numsL (q :: (dbl q (s.data.toList.take i) ++ dbl q [s[i]])) = numsL (q :: dbl q (s.data.toList.take i)) ++ [((s[i]).toNat : Int)] ++ [(q.toNat : Int)] := by
          rw [hd, hc]; simp [numsL]
        rw [he] at ih2
        have hn2 : (numsL (q :: dbl q (s.data.toList.take i)) ++ [((s[i]).toNat : Int)]).length < 140737488355328 := by
          rw [List.length_append, numsL_len, List.length_cons]; simp; omega
        refine Ev.step (fun k => ?_) ih2
        simp only [freshetref13_quoted.l0]
        rw [if_pos (show (i : Int) < (s.size : Int) by omega), if_pos (show 0 ≤ (i : Int) by omega), if_pos hn, hb, Option.bind_some, if_pos (show ((s[i]).toNat : Int) = (q.toNat : Int) by rw [hc]), if_pos hn2, hw]
      · have hd : dbl q [s[i]] = [s[i]] := by simp [dbl, hc]
        have he : numsL (q :: (dbl q (s.data.toList.take i) ++ dbl q [s[i]])) = numsL (q :: dbl q (s.data.toList.take i)) ++ [((s[i]).toNat : Int)] := by
          rw [hd]; simp [numsL]
        rw [he] at ih2
        have hne : ¬ ((s[i]).toNat : Int) = (q.toNat : Int) := fun hh => hc (UInt8.toNat_inj.1 (by omega))
        refine Ev.step (fun k => ?_) ih2
        simp only [freshetref13_quoted.l0]
        rw [if_pos (show (i : Int) < (s.size : Int) by omega), if_pos (show 0 ≤ (i : Int) by omega), if_pos hn, hb, Option.bind_some, if_neg hne, hw]
  have h := main s.size 0 (by omega)
  rw [List.take_zero] at h
  exact h

end Go.Proofs.YtlaafpbhhnehgaaDoor
