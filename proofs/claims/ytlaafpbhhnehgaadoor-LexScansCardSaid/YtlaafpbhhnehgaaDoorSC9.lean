/- a part of the claim: what the card leans on, out of the texts LA, LN2a, LR2, LR3, LR4, LR5 (put together by wip/tools/shake.py). -/
import Derived.Test.YtlaafpbhhnehgaaDoorSC3
import Derived.Test.YtlaafpbhhnehgaaDoorSC6
import Derived.Test.YtlaafpbhhnehgaaDoorSC7
import Derived.Test.YtlaafpbhhnehgaaDoorSC8
import Derived.Lib.IndexLaws
section
namespace Go.Proofs.YtlaafpbhhnehgaaDoor
set_option linter.unusedVariables false
set_option linter.unusedSimpArgs false
open Go.RowKit Go.Proofs.YtlaafpbhhnehgaaDoorW.PrintWords Go.Proofs.YtlaafpbhhnehgaaDoorW.PrintLast PLX
set_option maxRecDepth 1000000 in
theorem awake_k : freshetlaw13_awake.f 30 = some true := by kernel_rfl
theorem awake_ev : Ev (fun k => freshetlaw13_awake.f k) true := Ev.of (fun k => freshetlaw13_awake.mono k) awake_k
end Go.Proofs.YtlaafpbhhnehgaaDoor
end
section
namespace Go.Proofs.YtlaafpbhhnehgaaDoor
set_option linter.unusedVariables false
set_option linter.unusedSimpArgs false
open Go.RowKit Go.Proofs.YtlaafpbhhnehgaaDoorW.PrintWords Go.Proofs.YtlaafpbhhnehgaaDoorW.PrintLast PLX
def numsL (l : List UInt8) : List Int := l.map fun b => (b.toNat : Int)
theorem numsL_len (l : List UInt8) : (numsL l).length = l.length := by simp [numsL]
theorem numsL_app (l m : List UInt8) : numsL (l ++ m) = numsL l ++ numsL m := by simp [numsL]
theorem strOf_numsL (l : List UInt8) : strOfNums (numsL l) = ⟨l.toArray⟩ := by
  unfold strOfNums numsL
  rw [List.map_map]
  have : l.map ((fun n : Int => UInt8.ofNat n.toNat) ∘ fun b : UInt8 => (b.toNat : Int)) = l := by induction l <;> simp_all
  rw [this]
theorem w64i {n : Int} (h0 : -9223372036854775808 ≤ n) (h1 : n ≤ 9223372036854775807) : wrap64 n = n := by unfold wrap64; omega
theorem w64s {i : Nat} (h : i ≤ 140737488355328) : wrap64 ((i : Int) + 1) = ((i + 1 : Nat) : Int) := by rw [w64i (by omega) (by omega)]; omega
theorem bt_at_nat (s : ByteArray) (k : Nat) (h : k < s.size) : bt s (k : Int) = (s[k].toNat : Int) := by
  unfold bt; rw [dif_pos (by simpa using h)]; rfl
theorem isName_ev (s : ByteArray) (hs : s.size ≤ 140737488355328) : Ev (fun k => freshetref13_IsName.f k s) (nameP s.data.toList) := by
  have hl : s.data.toList.length = s.size := (Lib.size_eq s).symm
  obtain ⟨T, hT⟩ : ∃ T, (decide (1 ≤ s.data.toList.length) && decide (s.data.toList.length ≤ 32) && (s.data.toList.head? != some 64)) = T := ⟨_, rfl⟩
  have main : ∀ d i : Nat, i + d = s.size → Ev (fun k => freshetref13_IsName.l0 k s (i : Int)) (T && (s.data.toList.drop i).all okB) := by
    intro d
    induction d with
    | zero =>
      intro i hi
      rw [List.drop_of_length_le (by omega), List.all_nil, Bool.and_true]
      refine Ev.step (f := fun _ => some T) (fun k => ?_) (Ev.now _)
      simp only [freshetref13_IsName.l0]
      rw [if_neg (show ¬ (i : Int) < (s.size : Int) by omega)]
      rw [← hT]
      by_cases h1 : 1 ≤ s.size
      · rw [if_pos (show (s.size : Int) ≥ 1 by omega)]
        by_cases h2 : s.size ≤ 32
        · rw [if_pos (show (s.size : Int) ≤ 32 by omega), if_pos (show 0 < (s.size : Int) by omega)]
          have hb := bt_at_nat s 0 (by omega)
          rw [show ((0 : Nat) : Int) = 0 from rfl] at hb
          have hg := get_lt (show 0 < s.size by omega)
          rw [List.drop_zero] at hg
          rw [hb, hl, hg]
          have h64 : (((s[0].toNat : Int)) != 64) = (s[0] != 64) := by
            rw [Bool.eq_iff_iff]
            simp only [bne_iff_ne, ne_eq, ← UInt8.toNat_inj]
            show ¬ ((s[0].toNat : Int) = 64) ↔ ¬ s[0].toNat = 64
            omega
          have hh : ((s[0] :: s.data.toList.drop (0 + 1)).head? != some 64) = (s[0] != 64) := by rw [Bool.eq_iff_iff]; simp
          rw [h64, hh, decide_eq_true h1, decide_eq_true h2]; rfl
        · rw [if_neg (show ¬ (s.size : Int) ≤ 32 by omega), hl, decide_eq_false h2]; simp
      · rw [if_neg (show ¬ (s.size : Int) ≥ 1 by omega), hl, decide_eq_false h1]; simp
    | succ d ih =>
      intro i hi
      have hlt : i < s.size := by omega
      rw [get_lt hlt, List.all_cons]
      have hb := bt_at_nat s i hlt
      have hu := (s[i]).toNat_lt
      by_cases h1 : 32 ≤ (s[i]).toNat
      · by_cases h2 : (s[i]).toNat ≤ 126
        · have hok : okB s[i] = true := by unfold okB; rw [decide_eq_true h1, decide_eq_true h2]; rfl
          rw [hok, Bool.true_and]
          refine Ev.step (fun k => ?_) (ih (i + 1) (by omega))
          simp only [freshetref13_IsName.l0]
          rw [if_pos (show (i : Int) < (s.size : Int) by omega), if_pos (show 0 ≤ (i : Int) by omega), hb, if_neg (show ¬ ((s[i]).toNat : Int) < 32 by omega), if_neg (show ¬ ((s[i]).toNat : Int) > 126 by omega), w64s (by omega)]
        · have hok : okB s[i] = false := by unfold okB; rw [decide_eq_false h2]; simp
          rw [hok, Bool.false_and, Bool.and_false]
          refine Ev.step (f := fun _ => some false) (fun k => ?_) (Ev.now _)
          simp only [freshetref13_IsName.l0]
          rw [if_pos (show (i : Int) < (s.size : Int) by omega), if_pos (show 0 ≤ (i : Int) by omega), hb, if_neg (show ¬ ((s[i]).toNat : Int) < 32 by omega), if_pos (show ((s[i]).toNat : Int) > 126 by omega)]
      · have hok : okB s[i] = false := by unfold okB; rw [decide_eq_false h1]; simp
        rw [hok, Bool.false_and, Bool.and_false]
        refine Ev.step (f := fun _ => some false) (fun k => ?_) (Ev.now _)
        simp only [freshetref13_IsName.l0]
        rw [if_pos (show (i : Int) < (s.size : Int) by omega), if_pos (show 0 ≤ (i : Int) by omega), hb, if_pos (show ((s[i]).toNat : Int) < 32 by omega)]
  have h := main s.size 0 (by omega)
  rw [List.drop_zero, ← hT] at h
  exact h
theorem upperB_nat (b : UInt8) : ((Lib.upperB b).toNat : Int) = if 97 ≤ b.toNat ∧ b.toNat ≤ 122 then (b.toNat : Int) - 32 else b.toNat := by
  have : ∀ n : Fin 256, ((Lib.upperB (UInt8.ofNat n.1)).toNat : Int) = if 97 ≤ n.1 ∧ n.1 ≤ 122 then (n.1 : Int) - 32 else n.1 := by decide +kernel
  have h := this ⟨b.toNat, b.toNat_lt⟩
  simpa using h
theorem cased_ev (s : ByteArray) (hs : s.size ≤ 100000) : Ev (fun k => freshetref13_cased.f k s false) ⟨(Lib.toUpperA s.data.toList).toArray⟩ := by
  have hl : s.data.toList.length = s.size := (Lib.size_eq s).symm
  have main : ∀ d i : Nat, i + d = s.size → Ev (fun k => freshetref13_cased.l0 k s false (numsL (Lib.toUpperA (s.data.toList.take i))) (i : Int)) ⟨(Lib.toUpperA s.data.toList).toArray⟩ := by
    intro d
    induction d with
    | zero =>
      intro i hi
      rw [List.take_of_length_le (by omega), ← strOf_numsL]
      refine Ev.step (f := fun _ => some _) (fun k => ?_) (Ev.now _)
      simp only [freshetref13_cased.l0]
      rw [if_neg (show ¬ (i : Int) < (s.size : Int) by omega)]
    | succ d ih =>
      intro i hi
      have hlt : i < s.size := by omega
      have hb := bt_at_nat s i hlt
      have hu := (s[i]).toNat_lt
      have hup := upperB_nat s[i]
      have ht : numsL (Lib.toUpperA (s.data.toList.take (i + 1))) = numsL (Lib.toUpperA (s.data.toList.take i)) ++ [((Lib.upperB s[i]).toNat : Int)] := by
        have : s.data.toList.take (i + 1) = s.data.toList.take i ++ [s[i]] := by
          rw [List.take_succ_eq_append_getElem (by omega)]; rfl
        rw [this]; simp [Lib.toUpperA, numsL]
      have hn : (numsL (Lib.toUpperA (s.data.toList.take i))).length < 140737488355328 := by
        rw [numsL_len]; simp only [Lib.toUpperA, List.length_map, List.length_take]; omega
      have ih2 := ih (i + 1) (by omega)
      rw [ht] at ih2
      have J : Ev (fun k => freshetref13_cased.j1 k s false (numsL (Lib.toUpperA (s.data.toList.take i))) (i : Int) ((s[i]).toNat : Int) false) ⟨(Lib.toUpperA s.data.toList).toArray⟩ := by
        refine Ev.step (fun k => ?_) ih2
        simp only [freshetref13_cased.j1]
        rw [if_neg Bool.false_ne_true, if_neg Bool.false_ne_true, hup]
        by_cases h1 : 97 ≤ (s[i]).toNat
        · by_cases h2 : (s[i]).toNat ≤ 122
          · rw [if_pos (show ((s[i]).toNat : Int) ≥ 97 by omega), if_pos (show ((s[i]).toNat : Int) ≤ 122 by omega), if_pos hn, if_pos ⟨h1, h2⟩, w64s (by omega), show (((s[i]).toNat : Int) - 32) % 256 = ((s[i]).toNat : Int) - 32 by omega]
          · rw [if_pos (show ((s[i]).toNat : Int) ≥ 97 by omega), if_neg (show ¬ ((s[i]).toNat : Int) ≤ 122 by omega), if_pos hn, if_neg (fun h => h2 h.2), w64s (by omega)]
        · rw [if_neg (show ¬ ((s[i]).toNat : Int) ≥ 97 by omega), if_pos hn, if_neg (fun h => h1 h.1), w64s (by omega)]
      refine Ev.step (fun k => ?_) J
      simp only [freshetref13_cased.l0]
      rw [if_pos (show (i : Int) < (s.size : Int) by omega), if_pos (show 0 ≤ (i : Int) by omega), if_neg Bool.false_ne_true, hb]
  exact main s.size 0 (by omega)
theorem dig_eq (c : Int) : freshetref13_digit.f c = some (isDig c) := by
  unfold freshetref13_digit.f isDig
  by_cases h : c ≥ 48
  · rw [if_pos h, decide_eq_true h, Bool.true_and]
  · rw [if_neg h, decide_eq_false h, Bool.false_and]
theorem let_eq (c : Int) : freshetref13_letter.f c = some (isLet c) := by
  unfold freshetref13_letter.f isLet
  by_cases h1 : c ≥ 97
  · by_cases h2 : c ≤ 122
    · rw [if_pos h1, if_pos h2]; simp; omega
    · rw [if_pos h1, if_neg h2]
      by_cases h3 : c ≥ 65
      · by_cases h4 : c ≤ 90
        · omega
        · rw [if_pos h3, if_neg h4]; simp; omega
      · omega
  · rw [if_neg h1]
    by_cases h3 : c ≥ 65
    · by_cases h4 : c ≤ 90
      · rw [if_pos h3, if_pos h4]; simp; omega
      · rw [if_pos h3, if_neg h4]; simp; omega
    · rw [if_neg h3]; simp; omega
end Go.Proofs.YtlaafpbhhnehgaaDoor
end
section
namespace Go.Proofs.YtlaafpbhhnehgaaDoor
set_option linter.unusedVariables false
set_option linter.unusedSimpArgs false
open Go.RowKit Go.Proofs.YtlaafpbhhnehgaaDoorW.PrintWords Go.Proofs.YtlaafpbhhnehgaaDoorW.PrintLast PLX
/-- the answer of blank: the place, and whether every remark is ended -/
def blkR (s : ByteArray) (x : List UInt8 × Bool) : Int × Bool := (((s.size - x.1.length : Nat) : Int), x.2)
theorem w64_1 {s : ByteArray} {i : Nat} (hs : s.size ≤ 65536) (hi : i ≤ s.size) : Hid (wrap64 ((i : Int) + 1) = ((i + 1 : Nat) : Int)) := hidF (by rw [w64i (by omega) (by omega)]; omega)
theorem w64_2 {s : ByteArray} {i : Nat} (hs : s.size ≤ 65536) (hi : i ≤ s.size) : Hid (wrap64 ((i : Int) + 2) = ((i + 2 : Nat) : Int)) := hidF (by rw [w64i (by omega) (by omega)]; omega)
theorem ext_two {s : ByteArray} {i : Nat} (h : i + 1 < s.size) : (s.extract ((i : Nat) : Int).toNat (((i + 2 : Nat) : Int)).toNat).toList = [s[i], s[i + 1]] := by
  rw [Int.toNat_natCast, Int.toNat_natCast, Lib.extract_toList, get_lt (show i < s.size by omega), get_lt h, show i + 2 - i = 2 by omega]; rfl
theorem u8i {b : UInt8} {n : Nat} (hn : n < 256) : ((b.toNat : Int) = (n : Int)) ↔ b = UInt8.ofNat n := by
  constructor
  · intro h
    have : b.toNat = n := by omega
    rw [← this]; simp
  · rintro rfl
    simp; omega
theorem blk_stop {c : UInt8} {t : List UInt8} (h : sp c = false) (h1 : ¬ (c = 45 ∧ t.head? = some 45)) (h2 : ¬ (c = 47 ∧ t.head? = some 42)) : skipL 0 [] (c :: t) = (c :: t, true) := by
  rw [skipL]; simp only [if_true, h, Bool.false_eq_true, if_false, if_neg h1, if_neg h2]
theorem blank_ev (s : ByteArray) (hs : s.size ≤ 65536) : ∀ d p : Nat, p + d = s.size → Ev (fun k => freshetref13_blank.l0 k s (p : Int)) (blkR s (skipL 0 [] (s.data.toList.drop p))) := by
  have hl : s.data.toList.length = s.size := (Lib.size_eq s).symm
  intro d
  induction d using Nat.strongRecOn with
  | ind d IH =>
    intro p hp
    by_cases hlt : p < s.size
    · have P : ∀ q : Nat, p < q → q ≤ s.size → Ev (fun k => freshetref13_blank.l0 k s (q : Int)) (blkR s (skipL 0 [] (s.data.toList.drop q))) := fun q h1 h2 => IH (s.size - q) (by omega) q (by omega)
      have hb := bt_at_nat s p hlt
      have q1 : (p : Int) < (s.size : Int) := by omega
      have q2 : 0 ≤ (p : Int) := by omega
      have w1 := w64_1 hs (show p ≤ s.size by omega)
      have w2 := w64_2 hs (show p ≤ s.size by omega)
      have hst : (s.size - (s.data.toList.drop p).length : Nat) = p := by rw [List.length_drop]; omega
      -- a blank
      have J1 : sp s[p] = true → Ev (fun k => freshetref13_blank.j1 k s (p : Int) true) (blkR s (skipL 0 [] (s.data.toList.drop p))) := fun h => by
        rw [get_lt hlt, skip_sp _ _ h]
        refine Ev.step (fun k => ?_) (P (p + 1) (by omega) (by omega))
        rw [freshetref13_blank.j1, if_pos rfl, w1.out]
      -- nothing of all
      have J4 : skipL 0 [] (s.data.toList.drop p) = (s.data.toList.drop p, true) → Ev (fun k => freshetref13_blank.j4 k s (p : Int) true) (blkR s (skipL 0 [] (s.data.toList.drop p))) := fun h => by
        rw [h]
        refine Ev.step (f := fun _ => some (blkR s (s.data.toList.drop p, true))) (fun k => ?_) (Ev.now _)
        rw [freshetref13_blank.j4, if_pos rfl]
        unfold blkR
        rw [hst]
      -- a remark's inner part
      have L2 : ∀ d2 e : Nat, e + d2 = s.size → p < e → Ev (fun k => freshetref13_blank.l2 k s (p : Int) (e : Int)) (blkR s (skipL 3 (s.data.toList.drop p) (s.data.toList.drop e))) := by
        intro d2
        induction d2 with
        | zero =>
          intro e he hpe
          rw [List.drop_of_length_le (show s.data.toList.length ≤ e by omega), skipL, if_pos (.inr rfl)]
          refine Ev.step (f := fun _ => some (blkR s (s.data.toList.drop p, false))) (fun k => ?_) (Ev.now _)
          rw [freshetref13_blank.l2]
          have v1 := w64_1 hs (show e ≤ s.size by omega)
          rw [v1.out, if_neg (by omega), if_pos (by omega)]
          unfold blkR
          rw [hst]
        | succ d2 ih2 =>
          intro e he hpe
          have hle : e < s.size := by omega
          have v1 := w64_1 hs (show e ≤ s.size by omega)
          have v2 := w64_2 hs (show e ≤ s.size by omega)
          by_cases h2 : e + 1 < s.size
          · have hx := ext_two h2
            by_cases hc : s[e] = 42 ∧ s[e + 1] = 47
            · have e1 : skipL 3 (s.data.toList.drop p) (s.data.toList.drop e) = skipL 0 [] (s.data.toList.drop (e + 2)) := by
                rw [get_lt hle, get_lt h2, hc.1, hc.2, skipL]
                simp only [List.head?_cons, and_self, if_true]
                rw [if_neg (by omega), if_neg (by omega), if_neg (by omega)]
                exact skip4 _ _ _
              rw [e1]
              refine Ev.step (fun k => ?_) (P (e + 2) (by omega) (by omega))
              rw [freshetref13_blank.l2, v1.out, v2.out, if_pos (by omega), if_pos (by omega), if_pos (by omega), if_pos (by omega), hx, hc.1, hc.2, if_pos rfl, if_neg (by omega)]
            · have e1 : skipL 3 (s.data.toList.drop p) (s.data.toList.drop e) = skipL 3 (s.data.toList.drop p) (s.data.toList.drop (e + 1)) := by
                rw [get_lt hle, skipL]
                rw [if_neg (by omega), if_neg (by omega), if_neg (by omega), if_pos rfl, if_neg (fun hh => hc ⟨hh.1, by rw [get_lt h2] at hh; simpa using hh.2⟩)]
              rw [e1]
              refine Ev.step (fun k => ?_) (ih2 (e + 1) (by omega) (by omega))
              rw [freshetref13_blank.l2, v1.out, v2.out, if_pos (by omega), if_pos (by omega), if_pos (by omega), if_pos (by omega), hx, if_neg (fun hh => hc (by simpa using hh))]
          · have e1 : skipL 3 (s.data.toList.drop p) (s.data.toList.drop e) = (s.data.toList.drop p, false) := by
              rw [get_lt hle, List.drop_of_length_le (show s.data.toList.length ≤ e + 1 by omega), skipL]
              rw [if_neg (by omega), if_neg (by omega), if_neg (by omega), if_pos rfl, if_neg (by simp), skipL, if_pos (.inr rfl)]
            rw [e1]
            refine Ev.step (f := fun _ => some (blkR s (s.data.toList.drop p, false))) (fun k => ?_) (Ev.now _)
            rw [freshetref13_blank.l2, v1.out, if_neg (by omega), if_pos (by omega)]
            unfold blkR
            rw [hst]
      -- a line's remark
      have L1 : ∀ d2 e : Nat, e + d2 = s.size → p < e → Ev (fun k => freshetref13_blank.l1 k s (e : Int)) (blkR s (skipL 1 [] (s.data.toList.drop e))) := by
        intro d2
        induction d2 with
        | zero =>
          intro e he hpe
          have h0 := P e hpe (by omega)
          rw [List.drop_of_length_le (show s.data.toList.length ≤ e by omega)] at h0 ⊢
          refine Ev.step (fun k => ?_) h0
          rw [freshetref13_blank.l1, if_neg (by omega)]
        | succ d2 ih2 =>
          intro e he hpe
          have hle : e < s.size := by omega
          have hbe := bt_at_nat s e hle
          have v1 := w64_1 hs (show e ≤ s.size by omega)
          by_cases h10 : s[e] = 10
          · have h0 := P e hpe (by omega)
            have e1 : skipL 1 [] (s.data.toList.drop e) = skipL 0 [] (s.data.toList.drop e) := by
              rw [get_lt hle, h10, skip_sp 10 _ (by decide), skipL]; simp
            rw [e1]
            refine Ev.step (fun k => ?_) h0
            rw [freshetref13_blank.l1, if_pos (by omega), if_pos (by omega), hbe, h10, if_pos (show ((UInt8.toNat 10 : Nat) : Int) = 10 from rfl)]
          · have e1 : skipL 1 [] (s.data.toList.drop e) = skipL 1 [] (s.data.toList.drop (e + 1)) := by
              rw [get_lt hle, skipL]; simp [h10]
            rw [e1]
            refine Ev.step (fun k => ?_) (ih2 (e + 1) (by omega) (by omega))
            rw [freshetref13_blank.l1, if_pos (by omega), if_pos (by omega), hbe, if_neg (show ¬ ((s[e]).toNat : Int) = 10 from fun h => h10 ((u8i (n := 10) (by omega)).1 h)), v1.out]
      -- what stands there is no blank
      have J1f : sp s[p] = false → Ev (fun k => freshetref13_blank.j1 k s (p : Int) false) (blkR s (skipL 0 [] (s.data.toList.drop p))) := fun hsp => by
        by_cases h2 : p + 1 < s.size
        · have hx := ext_two h2
          have hd2 : s.data.toList.drop p = s[p] :: s[p + 1] :: s.data.toList.drop (p + 2) := by rw [get_lt hlt, get_lt h2]
          by_cases hc : s[p] = 45 ∧ s[p + 1] = 45
          · have e1 : skipL 0 [] (s.data.toList.drop p) = skipL 1 [] (s.data.toList.drop (p + 1)) := by
              rw [get_lt hlt, get_lt h2, hc.1, hc.2, skipL]; simp [sp]
            rw [e1]
            have hbp := hb
            rw [hc.1] at hbp
            refine Ev.step (f := fun k => freshetref13_blank.j2 k s (p : Int) true) (fun k => ?_) (Ev.step (f := fun k => freshetref13_blank.l1 k s (p : Int)) (fun k => ?_) (Ev.step (fun k => ?_) (L1 (s.size - (p + 1)) (p + 1) (by omega) (by omega))))
            · rw [freshetref13_blank.j1, if_neg Bool.false_ne_true, w1.out, w2.out, if_pos (by omega), if_pos q2, if_pos (by omega), if_pos (by omega), hx, hc.1, hc.2]; rfl
            · rw [freshetref13_blank.j2, if_pos rfl]
            · rw [freshetref13_blank.l1, if_pos q1, if_pos q2, hbp, if_neg (by decide), w1.out]
          · have hne : (([s[p], s[p + 1]] : List UInt8) == [45, 45]) = false := by
              rw [beq_eq_false_iff_ne]; intro hh; simp at hh; exact hc hh
            refine Ev.step (f := fun k => freshetref13_blank.j2 k s (p : Int) false) (fun k => ?_) ?_
            · rw [freshetref13_blank.j1, if_neg Bool.false_ne_true, w1.out, w2.out, if_pos (by omega), if_pos q2, if_pos (by omega), if_pos (by omega), hx, hne]
            by_cases hr : s[p] = 47 ∧ s[p + 1] = 42
            · have e1 : skipL 0 [] (s.data.toList.drop p) = skipL 3 (s.data.toList.drop p) (s.data.toList.drop (p + 2)) := by
                rw [hd2, hr.1, hr.2, skipL]; simp [sp]
                rw [skipL]; simp
              rw [e1]
              refine Ev.step (f := fun k => freshetref13_blank.j4 k s (p : Int) false) (fun k => ?_) (Ev.step (fun k => ?_) (L2 (s.size - (p + 2)) (p + 2) (by omega) (by omega)))
              · rw [freshetref13_blank.j2, if_neg Bool.false_ne_true, w1.out, w2.out, if_neg (by omega), if_pos q2, if_pos (by omega), if_pos (by omega), hx, hr.1, hr.2]; rfl
              · rw [freshetref13_blank.j4, if_neg Bool.false_ne_true, w2.out]
            · have hne2 : (([s[p], s[p + 1]] : List UInt8) != [47, 42]) = true := by
                rw [bne_iff_ne]; intro hh; simp at hh; exact hr hh
              have e1 : skipL 0 [] (s.data.toList.drop p) = (s.data.toList.drop p, true) := by
                rw [hd2]; exact blk_stop hsp (by simpa using hc) (by simpa using hr)
              refine Ev.step (f := fun k => freshetref13_blank.j4 k s (p : Int) true) (fun k => ?_) (J4 e1)
              rw [freshetref13_blank.j2, if_neg Bool.false_ne_true, w1.out, w2.out, if_neg (by omega), if_pos q2, if_pos (by omega), if_pos (by omega), hx, hne2]
        · have e1 : skipL 0 [] (s.data.toList.drop p) = (s.data.toList.drop p, true) := by
            rw [get_lt hlt, List.drop_of_length_le (show s.data.toList.length ≤ p + 1 by omega)]; exact blk_stop hsp (by simp) (by simp)
          refine Ev.step (f := fun k => freshetref13_blank.j2 k s (p : Int) false) (fun k => ?_) (Ev.step (f := fun k => freshetref13_blank.j4 k s (p : Int) true) (fun k => ?_) (J4 e1))
          · rw [freshetref13_blank.j1, if_neg Bool.false_ne_true, w1.out, if_neg (by omega)]
          · rw [freshetref13_blank.j2, if_neg Bool.false_ne_true, w1.out, if_pos (by omega)]
      have hsp : sp s[p] = (decide (((s[p]).toNat : Int) = 9) || decide (((s[p]).toNat : Int) = 10) || decide (((s[p]).toNat : Int) = 13) || (((s[p]).toNat : Int) == 32)) := by
        have : ∀ n : Fin 256, sp (UInt8.ofNat n.1) = (decide ((n.1 : Int) = 9) || decide ((n.1 : Int) = 10) || decide ((n.1 : Int) = 13) || ((n.1 : Int) == 32)) := by decide +kernel
        have h := this ⟨(s[p]).toNat, (s[p]).toNat_lt⟩
        simpa using h
      by_cases h9 : ((s[p]).toNat : Int) = 9
      · refine Ev.step (fun k => ?_) (J1 (by rw [hsp]; simp [h9]))
        rw [freshetref13_blank.l0, if_pos q1, if_pos q2, hb, if_pos h9]
      by_cases h10 : ((s[p]).toNat : Int) = 10
      · refine Ev.step (fun k => ?_) (J1 (by rw [hsp]; simp [h10]))
        rw [freshetref13_blank.l0, if_pos q1, if_pos q2, hb, if_neg h9, if_pos h10]
      by_cases h13 : ((s[p]).toNat : Int) = 13
      · refine Ev.step (fun k => ?_) (J1 (by rw [hsp]; simp [h13]))
        rw [freshetref13_blank.l0, if_pos q1, if_pos q2, hb, if_neg h9, if_neg h10, if_pos h13]
      cases h32 : ((s[p]).toNat : Int) == 32
      · refine Ev.step (fun k => ?_) (J1f (by rw [hsp, h32, decide_eq_false h9, decide_eq_false h10, decide_eq_false h13]; rfl))
        rw [freshetref13_blank.l0, if_pos q1, if_pos q2, hb, if_neg h9, if_neg h10, if_neg h13, h32]
      · refine Ev.step (fun k => ?_) (J1 (by rw [hsp, h32]; simp))
        rw [freshetref13_blank.l0, if_pos q1, if_pos q2, hb, if_neg h9, if_neg h10, if_neg h13, h32]
    · rw [List.drop_of_length_le (show s.data.toList.length ≤ p by omega)]
      refine Ev.step (f := fun _ => some (blkR s (skipL 0 [] []))) (fun k => ?_) (Ev.now _)
      rw [freshetref13_blank.l0, if_neg (by omega)]
      have : s.size = p := by omega
      show some ((p : Int), true) = some (((s.size - 0 : Nat) : Int), true)
      rw [Nat.sub_zero, this]
end Go.Proofs.YtlaafpbhhnehgaaDoor
end
section
namespace Go.Proofs.YtlaafpbhhnehgaaDoor
set_option linter.unusedVariables false
set_option linter.unusedSimpArgs false
open Go.RowKit Go.Proofs.YtlaafpbhhnehgaaDoorW.PrintWords Go.Proofs.YtlaafpbhhnehgaaDoorW.PrintLast PLX
theorem lowerB_nat (b : UInt8) : ((Lib.lowerB b).toNat : Int) = if 65 ≤ b.toNat ∧ b.toNat ≤ 90 then (b.toNat : Int) + 32 else b.toNat := by
  have : ∀ n : Fin 256, ((Lib.lowerB (UInt8.ofNat n.1)).toNat : Int) = if 65 ≤ n.1 ∧ n.1 ≤ 90 then (n.1 : Int) + 32 else n.1 := by decide +kernel
  have h := this ⟨b.toNat, b.toNat_lt⟩
  simpa using h
theorem casedL_ev (s : ByteArray) (hs : s.size ≤ 100000) : Ev (fun k => freshetref13_cased.f k s true) ⟨(Lib.toLowerA s.data.toList).toArray⟩ := by
  have hl : s.data.toList.length = s.size := (Lib.size_eq s).symm
  have main : ∀ d i : Nat, i + d = s.size → Ev (fun k => freshetref13_cased.l0 k s true (numsL (Lib.toLowerA (s.data.toList.take i))) (i : Int)) ⟨(Lib.toLowerA s.data.toList).toArray⟩ := by
    intro d
    induction d with
    | zero =>
      intro i hi
      rw [List.take_of_length_le (by omega), ← strOf_numsL]
      refine Ev.step (f := fun _ => some _) (fun k => ?_) (Ev.now _)
      simp only [freshetref13_cased.l0]
      rw [if_neg (show ¬ (i : Int) < (s.size : Int) by omega)]
    | succ d ih =>
      intro i hi
      have hlt : i < s.size := by omega
      have hb := bt_at_nat s i hlt
      have hu := (s[i]).toNat_lt
      have hup := lowerB_nat s[i]
      have ht : numsL (Lib.toLowerA (s.data.toList.take (i + 1))) = numsL (Lib.toLowerA (s.data.toList.take i)) ++ [((Lib.lowerB s[i]).toNat : Int)] := by
        have : s.data.toList.take (i + 1) = s.data.toList.take i ++ [s[i]] := by
          rw [List.take_succ_eq_append_getElem (by omega)]; rfl
        rw [this]; simp [Lib.toLowerA, numsL]
      have hn : (numsL (Lib.toLowerA (s.data.toList.take i))).length < 140737488355328 := by
        rw [numsL_len]; simp only [Lib.toLowerA, List.length_map, List.length_take]; omega
      have ih2 := ih (i + 1) (by omega)
      rw [ht, hup] at ih2
      by_cases hc : 65 ≤ (s[i]).toNat ∧ (s[i]).toNat ≤ 90
      · rw [if_pos hc] at ih2
        refine Ev.step (f := fun k => freshetref13_cased.j1 k s true (numsL (Lib.toLowerA (s.data.toList.take i))) (i : Int) ((s[i]).toNat : Int) true) (fun k => ?_) (Ev.step (fun k => ?_) ih2)
        · rw [freshetref13_cased.l0, if_pos (show (i : Int) < (s.size : Int) by omega), if_pos (show 0 ≤ (i : Int) by omega), if_pos rfl, hb, if_pos (show ((s[i]).toNat : Int) ≥ 65 by omega), decide_eq_true (show ((s[i]).toNat : Int) ≤ 90 by omega)]
        · rw [freshetref13_cased.j1, if_pos rfl, if_pos rfl, if_pos hn, w64s (by omega), show (((s[i]).toNat : Int) + 32) % 256 = ((s[i]).toNat : Int) + 32 by omega]
      · rw [if_neg hc] at ih2
        refine Ev.step (f := fun k => freshetref13_cased.j1 k s true (numsL (Lib.toLowerA (s.data.toList.take i))) (i : Int) ((s[i]).toNat : Int) false) (fun k => ?_) (Ev.step (fun k => ?_) ih2)
        · rw [freshetref13_cased.l0, if_pos (show (i : Int) < (s.size : Int) by omega), if_pos (show 0 ≤ (i : Int) by omega), if_pos rfl, hb]
          by_cases h1 : 65 ≤ (s[i]).toNat
          · rw [if_pos (show ((s[i]).toNat : Int) ≥ 65 by omega), decide_eq_false (show ¬ ((s[i]).toNat : Int) ≤ 90 by omega)]
          · rw [if_neg (show ¬ ((s[i]).toNat : Int) ≥ 65 by omega)]
        · rw [freshetref13_cased.j1, if_neg Bool.false_ne_true, if_pos rfl, if_pos hn, w64s (by omega)]
  exact main s.size 0 (by omega)
/-- what stands between quotes -/
def betR (p : Nat) (a : List UInt8) (r : Option (List UInt8 × Nat)) : ByteArray × Int × Bool := match r with | some (t, m) => (⟨(a ++ t).toArray⟩, ((p + m : Nat) : Int), true) | none => (⟨#[]⟩, 0, false)
theorem between_ev (s : ByteArray) (hs : s.size ≤ 65536) (q : UInt8) : ∀ d p : Nat, p + d = s.size → ∀ a : List UInt8, a.length ≤ p → Ev (fun k => freshetref13_between.l0 k s (p : Int) (q.toNat : Int) (numsL a)) (betR p a (betL q (s.data.toList.drop p))) := by
  have hl : s.data.toList.length = s.size := (Lib.size_eq s).symm
  intro d
  induction d using Nat.strongRecOn with
  | ind d IH =>
    intro p hp a ha
    have hn : (numsL a).length < 140737488355328 := by rw [numsL_len]; omega
    by_cases hlt : p < s.size
    · have hb := bt_at_nat s p hlt
      have q1 : (p : Int) < (s.size : Int) := by omega
      have q2 : 0 ≤ (p : Int) := by omega
      have w1 := w64_1 hs (show p ≤ s.size by omega)
      have w2 := w64_2 hs (show p ≤ s.size by omega)
      by_cases hc : s[p] = q
      · have hcq : ((s[p]).toNat : Int) = (q.toNat : Int) := by rw [hc]
        by_cases h2 : p + 1 < s.size
        · have hb1 := bt_at_nat s (p + 1) h2
          by_cases hd : s[p + 1] = q
          · have h0 := IH (s.size - (p + 2)) (by omega) (p + 2) (by omega) (a ++ [q]) (by simp; omega)
            have e1 : betR (p + 2) (a ++ [q]) (betL q (s.data.toList.drop (p + 2))) = betR p a (betL q (s.data.toList.drop p)) := by
              rw [get_lt hlt, get_lt h2, hc, hd, betL_two]
              show _ = betR p a ((betL q (s.data.toList.drop (p + 2))).map _)
              cases betL q (s.data.toList.drop (p + 2)) with
              | none => rfl
              | some r => simp [betR]; omega
            rw [e1, numsL_app] at h0
            refine Ev.step (fun k => ?_) h0
            rw [freshetref13_between.l0, if_pos q1, if_pos q2, hb, if_pos hcq, w1.out, w2.out, if_neg (by omega), if_pos (by omega), if_pos (by omega), hb1, if_pos (by rw [hd]), if_pos hn]; rfl
          · have e1 : betL q (s.data.toList.drop p) = some ([], 1) := by
              rw [get_lt hlt, get_lt h2, hc]; exact betL_end q _ (by simp [Lib.hasPrefix, List.isPrefixOf]; exact fun h => hd h.symm)
            rw [e1]
            refine Ev.step (f := fun _ => some (betR p a (some ([], 1)))) (fun k => ?_) (Ev.now _)
            rw [freshetref13_between.l0, if_pos q1, if_pos q2, hb, if_pos hcq, w1.out, if_neg (by omega), if_pos (by omega), if_pos (by omega), hb1, if_neg (fun h => hd (UInt8.toNat_inj.1 (by omega))), strOf_numsL]
            simp [betR]
        · have e1 : betL q (s.data.toList.drop p) = some ([], 1) := by
            rw [get_lt hlt, List.drop_of_length_le (show s.data.toList.length ≤ p + 1 by omega), hc]; exact betL_end q [] rfl
          rw [e1]
          refine Ev.step (f := fun _ => some (betR p a (some ([], 1)))) (fun k => ?_) (Ev.now _)
          rw [freshetref13_between.l0, if_pos q1, if_pos q2, hb, if_pos hcq, w1.out, if_pos (by omega), strOf_numsL]
          simp [betR]
      · have h0 := IH (s.size - (p + 1)) (by omega) (p + 1) (by omega) (a ++ [s[p]]) (by simp; omega)
        have e1 : betR (p + 1) (a ++ [s[p]]) (betL q (s.data.toList.drop (p + 1))) = betR p a (betL q (s.data.toList.drop p)) := by
          rw [get_lt hlt, betL_ne _ _ _ hc]
          cases betL q (s.data.toList.drop (p + 1)) with
          | none => rfl
          | some r => simp [betR]; omega
        rw [e1, numsL_app] at h0
        refine Ev.step (fun k => ?_) h0
        rw [freshetref13_between.l0, if_pos q1, if_pos q2, hb, if_neg (fun h => hc (UInt8.toNat_inj.1 (by omega))), if_pos hn, w1.out]; rfl
    · rw [List.drop_of_length_le (show s.data.toList.length ≤ p by omega)]
      refine Ev.step (f := fun _ => some (betR p a (betL q []))) (fun k => ?_) (Ev.now _)
      rw [freshetref13_between.l0, if_neg (by omega)]; rfl
abbrev signsB : ByteArray := ⟨#[40, 41, 44, 46, 59, 42, 43, 45, 47, 37, 61, 60, 62]⟩
theorem index_mem (l : List UInt8) (c : UInt8) : (0 ≤ Lib.indexByte l c) ↔ c ∈ l := by
  constructor
  · intro h
    obtain ⟨o, ho⟩ : ∃ o : Nat, Lib.indexByte l c = o := ⟨(Lib.indexByte l c).toNat, by omega⟩
    exact List.mem_of_getElem? (Lib.indexByte_some ho).1
  · intro h
    have hge := Lib.indexByte_ge l c
    by_cases h0 : Lib.indexByte l c = -1
    · obtain ⟨k, hk⟩ := List.mem_iff_getElem?.1 h
      exact absurd hk (Lib.indexByte_none h0 k)
    · omega
theorem sign0_ev (s : ByteArray) (p : Nat) (hlt : p < s.size) : ∀ d i : Nat, i + d = 13 → Ev (fun k => freshetref13_sign.l0 k s (p : Int) signsB (i : Int)) (if s[p] ∈ signsL.drop i then ⟨#[s[p]]⟩ else ⟨#[]⟩) := by
  intro d
  induction d with
  | zero =>
    intro i hi
    obtain rfl : i = 13 := by omega
    refine Ev.step (f := fun _ => some _) (fun k => ?_) (Ev.now _)
    rw [freshetref13_sign.l0, if_neg (by decide), if_neg (by simp [signsL])]
  | succ d ih =>
    intro i hi
    have hi13 : i < signsB.size := by show i < 13; omega
    have hb := bt_at_nat s p hlt
    have hbi := bt_at_nat signsB i hi13
    have hd : signsL.drop i = signsB[i] :: signsL.drop (i + 1) := get_lt hi13
    have hs13 : (signsB.size : Int) = 13 := rfl
    by_cases hc : s[p] = signsB[i]
    · have hex : (signsB.extract ((i : Nat) : Int).toNat (((i + 1 : Nat) : Int)).toNat) = ⟨#[s[p]]⟩ := by
        rw [Int.toNat_natCast, Int.toNat_natCast, extr, hc]
        have : signsB.data.toList.drop i = signsB[i] :: signsB.data.toList.drop (i + 1) := get_lt hi13
        rw [this, show i + 1 - i = 1 by omega]; rfl
      rw [if_pos (by rw [hd, hc]; exact List.mem_cons_self ..)]
      refine Ev.step (f := fun _ => some _) (fun k => ?_) (Ev.now _)
      rw [freshetref13_sign.l0, hs13, if_pos (by omega), if_pos (by omega), if_pos (by omega), if_pos (by omega), hb, hbi, if_pos (by rw [hc]), w64s (by omega), if_pos (by omega), if_pos (by omega), hex]
    · have hm : (s[p] ∈ signsL.drop i) = (s[p] ∈ signsL.drop (i + 1)) := by rw [hd]; simp [hc]
      simp only [hm]
      refine Ev.step (fun k => ?_) (ih (i + 1) (by omega))
      rw [freshetref13_sign.l0, hs13, if_pos (by omega), if_pos (by omega), if_pos (by omega), if_pos (by omega), hb, hbi, if_neg (fun h => hc (UInt8.toNat_inj.1 (by omega))), w64s (by omega)]
/-- the sign there, "": none -/
def sgn (r : Option (Int × List UInt8 × Nat)) : ByteArray := match r with | some (_, t, _) => ⟨t.toArray⟩ | none => ⟨#[]⟩
theorem pre_two (c d : UInt8) (u : List UInt8) (a b : UInt8) : Lib.hasPrefix (c :: d :: u) [a, b] = decide ([c, d] = [a, b]) := by
  rw [Bool.eq_iff_iff]
  simp [Lib.hasPrefix, List.isPrefixOf]
  constructor
  · rintro ⟨rfl, rfl⟩; exact ⟨rfl, rfl⟩
  · rintro ⟨rfl, rfl⟩; exact ⟨rfl, rfl⟩
theorem sign_ev (s : ByteArray) (hs : s.size ≤ 65536) (p : Nat) (hlt : p < s.size) : Ev (fun k => freshetref13_sign.f k s (p : Int)) (sgn (signT (s.data.toList.drop p) s[p])) := by
  have w1 := w64_1 hs (show p ≤ s.size by omega)
  have w2 := w64_2 hs (show p ≤ s.size by omega)
  have hl : s.data.toList.length = s.size := (Lib.size_eq s).symm
  have one : (if s[p] ∈ signsL.drop 0 then (⟨#[s[p]]⟩ : ByteArray) else ⟨#[]⟩) = sgn (if 0 ≤ Lib.indexByte signsL s[p] then some (6, [s[p]], 1) else none) := by
    simp only [index_mem, List.drop_zero]
    split <;> rfl
  have J0 : Ev (fun k => freshetref13_sign.j0 k s (p : Int)) (sgn (if 0 ≤ Lib.indexByte signsL s[p] then some (6, [s[p]], 1) else none)) := by
    rw [← one]
    exact Ev.step (fun k => by rw [freshetref13_sign.j0]; rfl) (sign0_ev s p hlt 13 0 (by omega))
  unfold signT
  rw [show twoS 0 = [60, 62] from rfl, show twoS 1 = [60, 61] from rfl, show twoS 2 = [62, 61] from rfl, show twoS 3 = [124, 124] from rfl]
  by_cases h2 : p + 1 < s.size
  · have hx := ext_two h2
    have hxx : s.extract ((p : Nat) : Int).toNat (((p + 2 : Nat) : Int)).toNat = ⟨#[s[p], s[p + 1]]⟩ := by
      rw [Int.toNat_natCast, Int.toNat_natCast, extr, get_lt hlt, get_lt h2, show p + 2 - p = 2 by omega]; rfl
    have hd2 : s.data.toList.drop p = s[p] :: s[p + 1] :: s.data.toList.drop (p + 2) := by rw [get_lt hlt, get_lt h2]
    rw [hd2, pre_two, pre_two, pre_two, pre_two]
    have top : ∀ k, freshetref13_sign.f k s (p : Int) = (if [s[p], s[p + 1]] = ([60, 62] : List UInt8) then some ⟨#[s[p], s[p + 1]]⟩ else if [s[p], s[p + 1]] = ([60, 61] : List UInt8) then some ⟨#[s[p], s[p + 1]]⟩ else if [s[p], s[p + 1]] = ([62, 61] : List UInt8) then some ⟨#[s[p], s[p + 1]]⟩ else if [s[p], s[p + 1]] = ([124, 124] : List UInt8) then some ⟨#[s[p], s[p + 1]]⟩ else freshetref13_sign.j0 k s (p : Int)) := fun k => by
      rw [freshetref13_sign.f, w1.out, w2.out, if_pos (by omega), if_pos (by omega), if_pos (by omega), if_pos (by omega), hx, hxx]
    by_cases c1 : [s[p], s[p + 1]] = ([60, 62] : List UInt8)
    · refine Ev.congr (f := fun _ => some ⟨#[s[p], s[p + 1]]⟩) (fun k => by rw [top, if_pos c1]) ?_
      rw [if_pos (decide_eq_true c1), ← c1]; exact Ev.now _
    rw [if_neg (by simpa using c1)]
    by_cases c2 : [s[p], s[p + 1]] = ([60, 61] : List UInt8)
    · refine Ev.congr (f := fun _ => some ⟨#[s[p], s[p + 1]]⟩) (fun k => by rw [top, if_neg c1, if_pos c2]) ?_
      rw [if_pos (decide_eq_true c2), ← c2]; exact Ev.now _
    rw [if_neg (by simpa using c2)]
    by_cases c3 : [s[p], s[p + 1]] = ([62, 61] : List UInt8)
    · refine Ev.congr (f := fun _ => some ⟨#[s[p], s[p + 1]]⟩) (fun k => by rw [top, if_neg c1, if_neg c2, if_pos c3]) ?_
      rw [if_pos (decide_eq_true c3), ← c3]; exact Ev.now _
    rw [if_neg (by simpa using c3)]
    by_cases c4 : [s[p], s[p + 1]] = ([124, 124] : List UInt8)
    · refine Ev.congr (f := fun _ => some ⟨#[s[p], s[p + 1]]⟩) (fun k => by rw [top, if_neg c1, if_neg c2, if_neg c3, if_pos c4]) ?_
      rw [if_pos (decide_eq_true c4), ← c4]; exact Ev.now _
    rw [if_neg (by simpa using c4)]
    exact Ev.congr (fun k => by rw [top, if_neg c1, if_neg c2, if_neg c3, if_neg c4]) J0
  · have hd1 : s.data.toList.drop p = [s[p]] := by rw [get_lt hlt, List.drop_of_length_le (show s.data.toList.length ≤ p + 1 by omega)]
    rw [hd1]
    have no : ∀ a b : UInt8, Lib.hasPrefix [s[p]] [a, b] = false := fun a b => by simp [Lib.hasPrefix, List.isPrefixOf]
    rw [no, no, no, no]
    simp only [Bool.false_eq_true, if_false]
    exact Ev.congr (fun k => by rw [freshetref13_sign.f, w1.out, if_neg (by omega)]) J0
end Go.Proofs.YtlaafpbhhnehgaaDoor
end
section
namespace Go.Proofs.YtlaafpbhhnehgaaDoor
set_option linter.unusedVariables false
set_option linter.unusedSimpArgs false
open Go.RowKit Go.Proofs.YtlaafpbhhnehgaaDoorW.PrintWords Go.Proofs.YtlaafpbhhnehgaaDoorW.PrintLast PLX
/-- what token answers -/
def TokR (p : Nat) (r : Option (Int × List UInt8 × Nat)) (x : Int × ByteArray × Int × Int × Bool) : Prop :=
  match r with
  | some (k, t, m) => x = (k, ⟨t.toArray⟩, (p : Int), ((p + m : Nat) : Int), true)
  | none => x.2.2.2.2 = false
theorem betL_len (c : UInt8) : ∀ (l : List UInt8) (t : List UInt8) (m : Nat), betL c l = some (t, m) → t.length ≤ m
  | [], _, _, h => by simp [betL] at h
  | [d], t, m, h => by
    by_cases hd : d = c
    · simp [betL, hd] at h; rw [h.1]; simp
    · simp [betL, hd] at h
  | d :: e :: l, t, m, h => by
    by_cases hd : d = c
    · by_cases he : e = c
      · subst hd; subst he
        rw [betL_two] at h
        cases hb : betL e l with
        | none => rw [hb] at h; simp at h
        | some r =>
          rw [hb] at h
          have := betL_len e l r.1 r.2 hb
          simp at h
          rw [← h.1, ← h.2]; simp; omega
      · simp [betL, hd, he] at h; rw [h.1]; simp
    · rw [betL_ne _ _ _ hd] at h
      cases hb : betL c (e :: l) with
      | none => rw [hb] at h; simp at h
      | some r =>
        rw [hb] at h
        have := betL_len c (e :: l) r.1 r.2 hb
        simp at h
        rw [← h.1, ← h.2]; simp; omega
theorem word_ev (s : ByteArray) (hs : s.size ≤ 65536) (p n : Nat) (hn : runL isInn (s.data.toList.drop p) = n) (hp : p + n ≤ s.size) (h1 : 1 ≤ n) : ∃ x, TokR p (wordT (s.data.toList.drop p)) x ∧ Ev (fun k => freshetref13_token.l0 k s (p : Int) (p : Int)) x := by
  have hl : s.data.toList.length = s.size := (Lib.size_eq s).symm
  have hex : (s.extract ((p : Nat) : Int).toNat (((p + n : Nat) : Int)).toNat) = ⟨((s.data.toList.drop p).take n).toArray⟩ := by
    rw [Int.toNat_natCast, Int.toNat_natCast, extr, show p + n - p = n by omega]
  obtain ⟨u, hu⟩ : ∃ u, (s.data.toList.drop p).take n = u := ⟨_, rfl⟩
  have hul : u.length = n := by rw [← hu, List.length_take, List.length_drop]; omega
  have hub : (⟨u.toArray⟩ : ByteArray).data.toList = u := rfl
  have hus : (⟨u.toArray⟩ : ByteArray).size ≤ 100000 := by rw [Lib.size_eq, hub]; omega
  have cu := cased_ev ⟨u.toArray⟩ hus
  have cl := casedL_ev ⟨u.toArray⟩ hus
  rw [hub] at cu cl
  have hsub : wrap64 (((p + n : Nat) : Int) - (p : Int)) = (n : Int) := by rw [w64i (by omega) (by omega)]; omega
  have hW : xrIsWord.f ⟨(Lib.toUpperA u).toArray⟩ = some (isWd (Lib.toUpperA u)) := by
    unfold xrIsWord.f
    rw [if_pos (by rw [Lib.size_eq]; simp [Lib.toUpperA]; omega), isRW_eq]
  have run : ∀ x, Ev (fun k => freshetref13_token.j1 k s (p : Int) ((p + n : Nat) : Int)) x → ∀ d j : Nat, j + d = n → Ev (fun k => freshetref13_token.l0 k s (p : Int) ((p + j : Nat) : Int)) x := by
    intro x hx d
    have hrun : ∀ j : Nat, j ≤ n → n = j + runL isInn (s.data.toList.drop (p + j)) := by
      intro j
      induction j with
      | zero => intro _; rw [Nat.add_zero, hn]; omega
      | succ j ih =>
        intro hj
        have h := ih (by omega)
        rw [get_lt (show p + j < s.size by omega), runL] at h
        cases hd : isInn (s[p + j]'(by omega)).toNat
        · rw [hd] at h; simp at h; omega
        · rw [hd] at h; simp only [if_true] at h; rw [show p + (j + 1) = p + j + 1 by omega]; omega
    induction d with
    | zero =>
      intro j hj
      obtain rfl : j = n := by omega
      have hr := hrun j (Nat.le_refl _)
      refine Ev.step (fun k => ?_) hx
      rw [freshetref13_token.l0]
      by_cases hlt : p + j < s.size
      · rw [get_lt hlt, runL] at hr
        have hi : isInn (s[p + j]).toNat = false := by
          cases hd : isInn (s[p + j]).toNat
          · rfl
          · rw [hd] at hr; simp at hr
        have hb := bt_at_nat s (p + j) hlt
        unfold isInn at hi
        simp only [Bool.or_eq_false_iff] at hi
        rw [if_pos (by omega), if_pos (by omega), hb, let_eq, hi.1, dig_eq, hi.2]; rfl
      · rw [if_neg (by omega)]
    | succ d ih =>
      intro j hj
      have hr := hrun j (by omega)
      have hlt : p + j < s.size := by omega
      have hb := bt_at_nat s (p + j) hlt
      have w1 := w64_1 hs (show p + j ≤ s.size by omega)
      rw [get_lt hlt, runL] at hr
      have hi : isInn (s[p + j]).toNat = true := by
        cases hd : isInn (s[p + j]).toNat
        · rw [hd] at hr; simp at hr; omega
        · rfl
      refine Ev.step (fun k => ?_) (ih (j + 1) (by omega))
      rw [freshetref13_token.l0, if_pos (by omega), if_pos (by omega), hb, let_eq, Option.bind_some]
      cases hle : isLet ((s[p + j]).toNat : Int)
      · unfold isInn at hi
        rw [hle, Bool.false_or] at hi
        rw [if_neg Bool.false_ne_true, dig_eq, hi, Option.bind_some, if_pos rfl, w1.out]; rfl
      · rw [if_pos rfl, w1.out]; rfl
  have J : ∀ x, Ev (fun k => (freshetref13_cased.f k ⟨u.toArray⟩ false).bind fun t178 => ((xrIsWord.f t178).bind fun t179 => (if t179 = true then ((freshetref13_cased.f k ⟨u.toArray⟩ false).bind fun t180 => (some (2, t180, (p : Int), ((p + n : Nat) : Int), true))) else ((freshetref13_cased.f k ⟨u.toArray⟩ true).bind fun t181 => (some (1, t181, (p : Int), ((p + n : Nat) : Int), decide ((n : Int) ≤ 32))))))) x →
      Ev (fun k => freshetref13_token.l0 k s (p : Int) (p : Int)) x := fun x hx => by
    have h := run x (Ev.step (fun k => by
      rw [freshetref13_token.j1, if_pos (by omega), if_pos (by omega), if_pos (by omega), hex, hu, hsub]) hx) n 0 (by omega)
    exact h
  unfold wordT
  rw [hn, hu]
  cases hw : isWd (Lib.toUpperA u)
  · rw [hw] at hW
    have e : Ev (fun k => freshetref13_token.l0 k s (p : Int) (p : Int)) (1, ⟨(Lib.toLowerA u).toArray⟩, (p : Int), ((p + n : Nat) : Int), decide ((n : Int) ≤ 32)) := by
      refine J _ (Ev.bind cu (Ev.congr (fun k => by rw [hW, Option.bind_some, if_neg Bool.false_ne_true]) (Ev.bind cl (Ev.now _))))
    refine ⟨_, ?_, e⟩
    rw [if_neg Bool.false_ne_true]
    by_cases h32 : n ≤ 32
    · rw [if_pos h32, decide_eq_true (show (n : Int) ≤ 32 by omega)]; rfl
    · rw [if_neg h32]; exact decide_eq_false (by omega)
  · rw [hw] at hW
    refine ⟨_, ?_, J (2, ⟨(Lib.toUpperA u).toArray⟩, (p : Int), ((p + n : Nat) : Int), true) (Ev.bind cu (Ev.congr (fun k => by rw [hW, Option.bind_some, if_pos rfl]) (Ev.bind cu (Ev.now _))))⟩
    rw [if_pos rfl]; rfl
theorem token_ev (s : ByteArray) (hs : s.size ≤ 65536) (p : Nat) (hlt : p < s.size) : ∃ x, TokR p (tokL (s.data.toList.drop p)) x ∧ Ev (fun k => freshetref13_token.f k s (p : Int)) x := by
  have hl : s.data.toList.length = s.size := (Lib.size_eq s).symm
  have hb := bt_at_nat s p hlt
  have hg := get_lt hlt
  have q1 : (p : Int) < (s.size : Int) := by omega
  have q2 : 0 ≤ (p : Int) := by omega
  have top : ∀ k, freshetref13_token.f k s (p : Int) = (if isLet (s[p]).toNat = true then (freshetref13_token.l0 k s (p : Int) (p : Int)) else (if isDig (s[p]).toNat = true then ((xrNumber.f s (p : Int)).bind fun bt183 => (some (bt183.1, bt183.2.1, bt183.2.2.1, bt183.2.2.2.1, bt183.2.2.2.2))) else (if ((s[p]).toNat : Int) = 34 then ((freshetref13_between.f k s (p : Int)).bind fun bt188 => (if bt188.2.2 = true then ((freshetref13_IsName.f k bt188.1).bind fun t191 => (some (1, bt188.1, (p : Int), bt188.2.1, t191))) else (some (1, bt188.1, (p : Int), bt188.2.1, false)))) else (if ((s[p]).toNat : Int) = 39 then ((freshetref13_between.f k s (p : Int)).bind fun bt192 => (if bt192.2.2 = true then (some (5, bt192.1, (p : Int), bt192.2.1, decide ((bt192.1.size : Int) ≤ 4096))) else (some (5, bt192.1, (p : Int), bt192.2.1, false)))) else ((freshetref13_sign.f k s (p : Int)).bind fun t195 => (some (6, t195, (p : Int), wrap64 ((p : Int) + (t195.size : Int)), (t195.toList != ([] : List UInt8))))))))) := fun k => by
    rw [freshetref13_token.f, if_pos q2, if_pos q1, hb, let_eq, Option.bind_some, dig_eq, Option.bind_some]
  have betw : ∀ c : UInt8, s[p] = c → Ev (fun k => freshetref13_between.f k s (p : Int)) (betR (p + 1) [] (betL c (s.data.toList.drop (p + 1)))) := fun c hc => by
    refine Ev.congr (fun k => ?_) (between_ev s hs c (s.size - (p + 1)) (p + 1) (by omega) [] (by simp))
    rw [freshetref13_between.f, if_pos q2, if_pos q1, hb, (w64_1 hs (show p ≤ s.size by omega)).out, hc]; rfl
  rw [hg, tokL]
  by_cases h1 : isLet (s[p]).toNat = true
  · rw [if_pos h1, ← hg]
    have hrl := runL_le isInn (s.data.toList.drop p)
    rw [List.length_drop] at hrl
    have hr1 : 1 ≤ runL isInn (s.data.toList.drop p) := by rw [hg]; exact run_pos (by unfold isInn; rw [h1]; rfl)
    obtain ⟨x, hx, he⟩ := word_ev s hs p _ rfl (by omega) hr1
    exact ⟨x, hx, Ev.congr (fun k => by rw [top, if_pos h1]) he⟩
  rw [if_neg h1]
  by_cases h2 : isDig (s[p]).toNat = true
  · rw [if_pos h2, ← hg]
    have hx := xrNumber_at s p hs hlt h2
    refine ⟨_, ?_, Ev.congr (f := fun _ => some ((rnumP p (s.data.toList.drop p)).1, ⟨(rnumP p (s.data.toList.drop p)).2.1.toArray⟩, (p : Int), ((rnumP p (s.data.toList.drop p)).2.2.1 : Int), (rnumP p (s.data.toList.drop p)).2.2.2)) (fun k => by rw [top, if_neg h1, if_pos h2, hx]; rfl) (Ev.now _)⟩
    unfold numT rnumP
    split
    · by_cases h16 : runL isDig (s.data.toList.drop p) + 1 + runL isDig ((s.data.toList.drop p).drop (runL isDig (s.data.toList.drop p) + 1)) ≤ 16
      · rw [if_pos h16]; simp only [TokR, decide_eq_true h16]
      · rw [if_neg h16]; exact decide_eq_false h16
    · cases hi : intOk (bareN (s.data.toList.drop p) (runL isDig (s.data.toList.drop p)))
      · rw [if_neg Bool.false_ne_true]; rfl
      · rw [if_pos rfl]; rfl
  rw [if_neg h2]
  by_cases h3 : s[p] = 34
  · have h34 : ((s[p]).toNat : Int) = 34 := by rw [h3]; rfl
    rw [if_pos h3]
    have hbt := betw 34 h3
    have top3 : ∀ k, freshetref13_token.f k s (p : Int) = ((freshetref13_between.f k s (p : Int)).bind fun bt188 => (if bt188.2.2 = true then ((freshetref13_IsName.f k bt188.1).bind fun t191 => (some (1, bt188.1, (p : Int), bt188.2.1, t191))) else (some (1, bt188.1, (p : Int), bt188.2.1, false)))) := fun k => by rw [top, if_neg h1, if_neg h2, if_pos h34]
    cases hbe : betL 34 (s.data.toList.drop (p + 1)) with
    | none =>
      rw [hbe] at hbt
      exact ⟨(1, ⟨#[]⟩, (p : Int), 0, false), rfl, Ev.congr top3 (Ev.bind hbt (Ev.congr (fun k => if_neg Bool.false_ne_true) (Ev.now _)))⟩
    | some r =>
      obtain ⟨t, m⟩ := r
      rw [hbe] at hbt
      have hm := betL_le 34 _ t m hbe
      have hn := isName_ev ⟨t.toArray⟩ (by
        have : t.length ≤ m := betL_len 34 _ t m hbe
        have h2 := hm.2
        rw [List.length_drop] at h2
        rw [Lib.size_eq]; show t.length ≤ _; omega)
      have e : Ev (fun k => freshetref13_token.f k s (p : Int)) (1, ⟨t.toArray⟩, (p : Int), ((p + 1 + m : Nat) : Int), nameP t) :=
        Ev.congr top3 (Ev.bind hbt (Ev.congr (fun k => if_pos rfl) (Ev.bind hn (Ev.now _))))
      refine ⟨_, ?_, e⟩
      simp only [nameT, nameL_eq]
      cases nameP t
      · rfl
      · simp only [if_true, TokR]; rw [show p + (m + 1) = p + 1 + m by omega]
  rw [if_neg h3]
  have h34 : ¬ ((s[p]).toNat : Int) = 34 := fun h => h3 ((u8i (n := 34) (by omega)).1 h)
  by_cases h4 : s[p] = 39
  · have h39 : ((s[p]).toNat : Int) = 39 := by rw [h4]; rfl
    rw [if_pos h4]
    have hbt := betw 39 h4
    have top4 : ∀ k, freshetref13_token.f k s (p : Int) = ((freshetref13_between.f k s (p : Int)).bind fun bt192 => (if bt192.2.2 = true then (some (5, bt192.1, (p : Int), bt192.2.1, decide ((bt192.1.size : Int) ≤ 4096))) else (some (5, bt192.1, (p : Int), bt192.2.1, false)))) := fun k => by rw [top, if_neg h1, if_neg h2, if_neg h34, if_pos h39]
    cases hbe : betL 39 (s.data.toList.drop (p + 1)) with
    | none =>
      rw [hbe] at hbt
      exact ⟨(5, ⟨#[]⟩, (p : Int), 0, false), rfl, Ev.congr top4 (Ev.bind hbt (Ev.congr (fun k => if_neg Bool.false_ne_true) (Ev.now _)))⟩
    | some r =>
      obtain ⟨t, m⟩ := r
      rw [hbe] at hbt
      have e : Ev (fun k => freshetref13_token.f k s (p : Int)) (5, ⟨t.toArray⟩, (p : Int), ((p + 1 + m : Nat) : Int), decide (((⟨t.toArray⟩ : ByteArray).size : Int) ≤ 4096)) :=
        Ev.congr top4 (Ev.bind hbt (Ev.congr (fun k => if_pos rfl) (Ev.now _)))
      refine ⟨_, ?_, e⟩
      have hsz : (⟨t.toArray⟩ : ByteArray).size = t.length := by rw [Lib.size_eq]
      simp only [textT]
      by_cases h : t.length ≤ 4096
      · rw [if_pos h, hsz, decide_eq_true (by omega)]
        simp only [TokR]; rw [show p + (m + 1) = p + 1 + m by omega]
      · rw [if_neg h, hsz]; exact decide_eq_false (by omega)
  have h39 : ¬ ((s[p]).toNat : Int) = 39 := fun h => h4 ((u8i (n := 39) (by omega)).1 h)
  rw [if_neg h4]
  have hsg := sign_ev s hs p hlt
  rw [hg] at hsg
  have top5 : ∀ k, freshetref13_token.f k s (p : Int) = ((freshetref13_sign.f k s (p : Int)).bind fun t195 => (some (6, t195, (p : Int), wrap64 ((p : Int) + (t195.size : Int)), (t195.toList != ([] : List UInt8))))) := fun k => by rw [top, if_neg h1, if_neg h2, if_neg h34, if_neg h39]
  have hsig : ∀ k t m, signT (s[p] :: s.data.toList.drop (p + 1)) s[p] = some (k, t, m) → k = 6 ∧ m = t.length ∧ t ≠ [] ∧ m ≤ 2 := by
    intro k t m h
    unfold signT at h
    repeat' split at h
    all_goals first | (cases h; done) | (simp only [Option.some.injEq, Prod.mk.injEq] at h; obtain ⟨rfl, rfl, rfl⟩ := h; exact ⟨rfl, rfl, by simp [twoS], by omega⟩)
  cases hsx : signT (s[p] :: s.data.toList.drop (p + 1)) s[p] with
  | none =>
    rw [hsx] at hsg
    exact ⟨(6, ⟨#[]⟩, (p : Int), wrap64 ((p : Int) + ((⟨#[]⟩ : ByteArray).size : Int)), false), rfl, Ev.congr top5 (Ev.bind hsg (Ev.congr (f := fun _ => some (6, ⟨#[]⟩, (p : Int), wrap64 ((p : Int) + ((⟨#[]⟩ : ByteArray).size : Int)), false)) (fun k => by show some (6, (⟨#[]⟩ : ByteArray), (p : Int), _, ((⟨#[]⟩ : ByteArray).toList != ([] : List UInt8))) = _; rw [ByteArray.toList_eq]; rfl) (Ev.now _)))⟩
  | some r =>
    obtain ⟨k, t, m⟩ := r
    obtain ⟨rfl, rfl, hne, hm2⟩ := hsig k t m hsx
    rw [hsx] at hsg
    refine ⟨_, ?_, Ev.congr top5 (Ev.bind hsg (Ev.now _))⟩
    show _ = _
    have hsz : (⟨t.toArray⟩ : ByteArray).size = t.length := by rw [Lib.size_eq]
    have e1 : wrap64 ((p : Int) + ((sgn (some (6, t, t.length))).size : Int)) = ((p + t.length : Nat) : Int) := by
      show wrap64 ((p : Int) + ((⟨t.toArray⟩ : ByteArray).size : Int)) = _
      rw [hsz, w64i (by omega) (by omega)]; omega
    have e2 : ((sgn (some (6, t, t.length))).toList != ([] : List UInt8)) = true := by
      show ((⟨t.toArray⟩ : ByteArray).toList != ([] : List UInt8)) = true
      rw [ByteArray.toList_eq]; simpa using hne
    rw [e1, e2]; rfl
end Go.Proofs.YtlaafpbhhnehgaaDoor
end
section
namespace Go.Proofs.YtlaafpbhhnehgaaDoor
set_option linter.unusedVariables false
set_option linter.unusedSimpArgs false
open Go.RowKit Go.Proofs.YtlaafpbhhnehgaaDoorW.PrintWords Go.Proofs.YtlaafpbhhnehgaaDoorW.PrintLast PLX
def scnR (toks : List S34) (r : Except Nat (List S34)) : List S34 × Int × Int := match r with | .ok l => (toks ++ l, 0, 0) | .error q => ([], (q : Int), 20)
theorem scn_zero {sz : Nat} {l r : List UInt8} (h1 : skipL 0 [] l = (r, true)) (h2 : r ≠ []) : scanL 0 sz l = .error (sz - r.length) := by
  unfold scanL
  rw [h1]
  simp only [Bool.true_eq_false, if_false, if_neg h2]
theorem scn_succ {d sz : Nat} {l r : List UInt8} (h1 : skipL 0 [] l = (r, true)) (h2 : r ≠ []) : scanL (d + 1) sz l = (match tokL r with
    | none => .error (sz - r.length)
    | some (k, t, m) => (scanL d sz (r.drop m)).map (fun a => (⟨k, ⟨t.toArray⟩, ((sz - r.length : Nat) : Int)⟩ : S34) :: a)) := by
  rw [scanL, h1]
  simp only [Bool.true_eq_false, if_false, if_neg h2]
  cases tokL r with
  | none => rfl
  | some y => rfl
theorem rscan_ev (s : ByteArray) (hs : s.size ≤ 65536) : ∀ (d p : Nat) (toks : List S34), toks.length + d = 1000 → p ≤ s.size → Ev (fun k => freshetref13_Scan.l0 k s toks (p : Int)) (scnR toks (scanL d s.size (s.data.toList.drop p))) := by
  have hl : s.data.toList.length = s.size := (Lib.size_eq s).symm
  have top : ∀ k p toks, freshetref13_Scan.l0 (k + 1) s toks p = (freshetref13_blank.f k s p).bind fun bt199 => (if bt199.2 = true then (if bt199.1 ≥ (s.size : Int) then (if toks.length < 4398046511104 then (some ((toks ++ [(⟨0, (⟨#[]⟩ : ByteArray), (s.size : Int)⟩ : S34)]), 0, 0)) else (none)) else (if (toks.length : Int) ≥ 1000 then (some (([] : List (S34)), bt199.1, 20)) else ((freshetref13_token.f k s bt199.1).bind fun bt204 => (if bt204.2.2.2.2 = true then (if toks.length < 4398046511104 then (freshetref13_Scan.l0 k s (toks ++ [(⟨bt204.1, bt204.2.1, bt204.2.2.1⟩ : S34)]) bt204.2.2.2.1) else (none)) else (some (([] : List (S34)), bt199.1, 20)))))) else (some (([] : List (S34)), bt199.1, 20))) := fun k p toks => by rw [freshetref13_Scan.l0]
  intro d
  induction d with
  | zero =>
    intro p toks ht hp
    have hbl := blank_ev s hs (s.size - p) p (by omega)
    obtain ⟨n, hn, hsk⟩ := skip_drop (s.data.toList.drop p)
    obtain ⟨r, b, hrb⟩ : ∃ r b, skipL 0 [] (s.data.toList.drop p) = (r, b) := ⟨_, _, rfl⟩
    rw [hrb] at hsk hbl
    rw [List.drop_drop] at hsk
    simp only at hsk
    have hr : r.length ≤ s.size := by rw [hsk, List.length_drop]; omega
    refine Ev.step (fun k => top k _ _) (Ev.bind (show Ev (fun k => freshetref13_blank.f k s (p : Int)) _ from hbl) ?_)
    cases b with
    | false =>
      rw [scan_fault hrb]
      exact Ev.congr (fun k => if_neg Bool.false_ne_true) (Ev.now _)
    | true =>
      refine Ev.congr (fun k => if_pos rfl) ?_
      by_cases hre : r = []
      · subst hre
        rw [scan_done hrb]
        refine Ev.congr (fun k => ?_) (Ev.now _)
        show (if ((s.size - 0 : Nat) : Int) ≥ (s.size : Int) then _ else _) = _
        rw [if_pos (by omega), if_pos (by omega)]; rfl
      · rw [scn_zero hrb hre]
        have hr1 : 0 < r.length := List.length_pos_iff.2 hre
        refine Ev.congr (fun k => ?_) (Ev.now _)
        show (if ((s.size - r.length : Nat) : Int) ≥ (s.size : Int) then _ else _) = _
        rw [if_neg (by omega), if_pos (by omega)]; rfl
  | succ d ih =>
    intro p toks ht hp
    have hbl := blank_ev s hs (s.size - p) p (by omega)
    obtain ⟨n, hn, hsk⟩ := skip_drop (s.data.toList.drop p)
    obtain ⟨r, b, hrb⟩ : ∃ r b, skipL 0 [] (s.data.toList.drop p) = (r, b) := ⟨_, _, rfl⟩
    rw [hrb] at hsk hbl
    rw [List.drop_drop] at hsk
    simp only at hsk
    have hr : r.length ≤ s.size := by rw [hsk, List.length_drop]; omega
    refine Ev.step (fun k => top k _ _) (Ev.bind (show Ev (fun k => freshetref13_blank.f k s (p : Int)) _ from hbl) ?_)
    cases b with
    | false =>
      rw [scan_fault hrb]
      exact Ev.congr (fun k => if_neg Bool.false_ne_true) (Ev.now _)
    | true =>
      refine Ev.congr (fun k => if_pos rfl) ?_
      by_cases hre : r = []
      · subst hre
        rw [scan_done hrb]
        refine Ev.congr (fun k => ?_) (Ev.now _)
        show (if ((s.size - 0 : Nat) : Int) ≥ (s.size : Int) then _ else _) = _
        rw [if_pos (by omega), if_pos (by omega)]; rfl
      · rw [scn_succ hrb hre]
        have hr1 : 0 < r.length := List.length_pos_iff.2 hre
        obtain ⟨q, hq⟩ : ∃ q, s.size - r.length = q := ⟨_, rfl⟩
        have hqlt : q < s.size := by omega
        have hrq : r = s.data.toList.drop q := by
          rw [hsk]
          have : r.length = s.size - (p + n) := by rw [hsk, List.length_drop]; omega
          congr 1; omega
        rw [show blkR s (r, true) = ((q : Int), true) by unfold blkR; rw [hq]]
        obtain ⟨x, hx, he⟩ := token_ev s hs q hqlt
        rw [← hrq] at hx
        refine Ev.congr (f := fun k => (freshetref13_token.f k s (q : Int)).bind fun bt204 => (if bt204.2.2.2.2 = true then (freshetref13_Scan.l0 k s (toks ++ [(⟨bt204.1, bt204.2.1, bt204.2.2.1⟩ : S34)]) bt204.2.2.2.1) else (some (([] : List (S34)), (q : Int), 20)))) (fun k => ?_) (Ev.bind he ?_)
        · show (if (q : Int) ≥ (s.size : Int) then _ else _) = _
          rw [if_neg (by omega), if_neg (by omega)]
          simp only [if_pos (show toks.length < 4398046511104 by omega)]
        · simp only [hq]
          cases htk : tokL r with
          | none =>
            rw [htk] at hx
            have hx' : x.2.2.2.2 = false := hx
            rw [hx']
            exact Ev.congr (fun k => if_neg Bool.false_ne_true) (Ev.now _)
          | some y =>
            obtain ⟨kk, t, m⟩ := y
            rw [htk] at hx
            have hx' : x = (kk, ⟨t.toArray⟩, (q : Int), ((q + m : Nat) : Int), true) := hx
            subst hx'
            have hm := tok_le htk
            rw [hrq, List.length_drop] at hm
            have h0 := ih (q + m) (toks ++ [⟨kk, ⟨t.toArray⟩, (q : Int)⟩]) (by simp; omega) (by omega)
            refine Ev.congr (fun k => if_pos rfl) ?_
            show Ev (fun k => freshetref13_Scan.l0 k s (toks ++ [(⟨kk, ⟨t.toArray⟩, (q : Int)⟩ : S34)]) ((q + m : Nat) : Int)) (scnR toks ((scanL d s.size (r.drop m)).map (fun a => (⟨kk, ⟨t.toArray⟩, (q : Int)⟩ : S34) :: a)))
            rw [show r.drop m = s.data.toList.drop (q + m) by rw [hrq, List.drop_drop]]
            have e1 : scnR (toks ++ [⟨kk, ⟨t.toArray⟩, (q : Int)⟩]) (scanL d s.size (s.data.toList.drop (q + m))) = scnR toks ((scanL d s.size (s.data.toList.drop (q + m))).map (fun a => (⟨kk, ⟨t.toArray⟩, (q : Int)⟩ : S34) :: a)) := by
              cases scanL d s.size (s.data.toList.drop (q + m)) with
              | error e => rfl
              | ok l => simp [scnR, Except.map]
            rw [e1] at h0
            exact h0
theorem tsame_ev (l : List S34) (hl : l.length ≤ 1000000) : Ev (fun k => freshetref13_Same.f k l l) true := by
  have main : ∀ d i : Nat, i + d = l.length → Ev (fun k => freshetref13_Same.l0 k l l (i : Int)) true := by
    intro d
    induction d with
    | zero =>
      intro i hi
      refine Ev.step (f := fun _ => some true) (fun k => ?_) (Ev.now _)
      rw [freshetref13_Same.l0, if_neg (by omega)]
    | succ d ih =>
      intro i hi
      refine Ev.step (fun k => ?_) (ih (i + 1) (by omega))
      rw [freshetref13_Same.l0, if_pos (by omega), if_pos (by omega), if_pos (by omega), if_neg (by simp), w64s (by omega)]
  exact Ev.congr (fun k => by rw [freshetref13_Same.f, if_pos rfl]; rfl) (main l.length 0 (by omega))
theorem scanP_len (s : ByteArray) : (scanP s).1.length ≤ 1000000 := by
  unfold scanP
  split
  · have h := scan_places s.data.toList 1000 0
    rw [List.drop_zero, ← Lib.size_eq] at h
    cases hs : scanL 1000 s.size s.data.toList with
    | error e => simp
    | ok l => have := (h l (by omega) hs).2; simp only; omega
  · simp
theorem scans_ev (s : ByteArray) : Ev (fun k => freshetlaw13_LexScans.f k s) true := by
  have hR : Ev (fun k => freshetref13_Scan.f k s) (scanP s) := by
    unfold scanP
    by_cases hs : s.size ≤ 65536
    · rw [if_pos hs]
      refine Ev.congr (f := fun k => freshetref13_Scan.l0 k s [] ((0 : Nat) : Int)) (fun k => by rw [freshetref13_Scan.f, if_neg (by omega)]; rfl) ?_
      have h := rscan_ev s hs 1000 0 [] (by simp) (by omega)
      rw [List.drop_zero] at h
      cases hsc : scanL 1000 s.size s.data.toList with
      | error e => rw [hsc] at h; exact h
      | ok l => rw [hsc] at h; exact h
    · rw [if_neg hs]
      exact Ev.congr (fun k => by rw [freshetref13_Scan.f, if_pos (by omega)]) (Ev.now _)
  unfold freshetlaw13_LexScans.f
  refine Ev.bind awake_ev (Ev.congr (fun k => by rw [if_pos rfl, xScan.f, Option.bind_some]) (Ev.bind hR (Ev.bind (tsame_ev _ (scanP_len s)) (Ev.congr (fun k => ?_) (Ev.now true)))))
  rw [if_pos rfl, if_pos rfl, beq_self_eq_true]
theorem walkLexScans (s : ByteArray) (w0 : s.size ≤ maxLen) (w : World) (ht : Tab w) :
    Calls Tryd.prog 3 #[.string s] w fun e w' => e = .returned (.bool true) ∧ Below w.heap.size w w' := by
  obtain ⟨k, hk⟩ := (scans_ev s).rounds
  exact freshetlaw13_LexScans.calls k s true w ht hk
end Go.Proofs.YtlaafpbhhnehgaaDoor
end
