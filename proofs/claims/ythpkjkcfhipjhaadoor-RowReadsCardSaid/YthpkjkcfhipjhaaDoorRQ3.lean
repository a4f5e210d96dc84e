/- RowReads, in plain words: the document's Decode reads as the program's. -/
import Derived.Test.YthpkjkcfhipjhaaDoorRQ1
import Derived.Test.YthpkjkcfhipjhaaDoorPRRx
namespace Go.Proofs.YthpkjkcfhipjhaaDoor
set_option linter.unusedVariables false
set_option linter.unusedSimpArgs false
open Go.RowKit Go.Proofs.YthpkjkcfhipjhaaDoorW.PrintWords Go.Proofs.YthpkjkcfhipjhaaDoorW.PrintLast PRW PRR

def numsL (l : List UInt8) : List Int := l.map fun b => (b.toNat : Int)
theorem strOf_numsL (l : List UInt8) : strOfNums (numsL l) = ⟨l.toArray⟩ := by
  unfold strOfNums numsL
  rw [List.map_map]
  have : l.map ((fun n : Int => UInt8.ofNat n.toNat) ∘ fun b : UInt8 => (b.toNat : Int)) = l := by induction l <;> simp_all
  rw [this]
theorem numsL_snoc (l : List UInt8) (c : UInt8) : numsL l ++ [(c.toNat : Int)] = numsL (l ++ [c]) := by simp [numsL]
theorem numsL_len (l : List UInt8) : (numsL l).length = l.length := by simp [numsL]

theorem drop_at (s : ByteArray) (a : Nat) (c : UInt8) (l : List UInt8) (h : s.data.toList.drop a = c :: l) : a < s.size ∧ bt s (a : Int) = (c.toNat : Int) ∧ s.data.toList.drop (a + 1) = l := by
  have hl : a < s.size := by
    rcases Nat.lt_or_ge a s.size with h1 | h1
    · exact h1
    · rw [List.drop_of_length_le (by rw [← Lib.size_eq]; exact h1)] at h; cases h
  have h2 : a < s.data.toList.length := by rw [← Lib.size_eq]; exact hl
  rw [List.drop_eq_getElem_cons h2] at h
  injection h with h3 h4
  refine ⟨hl, ?_, h4⟩
  unfold bt
  rw [dif_pos (by simpa using hl), ← h3]; rfl
theorem drop_end (s : ByteArray) (a : Nat) (ha : a ≤ s.size) (h : s.data.toList.drop a = []) : a = s.size := by
  have := congrArg List.length h
  rw [List.length_drop, ← Lib.size_eq] at this
  simp at this; omega
theorem drop_len (s : ByteArray) (a : Nat) : (s.data.toList.drop a).length = s.size - a := by rw [List.length_drop, ← Lib.size_eq]

/-- the document's text, as the print has it -/
def resT (s : ByteArray) (r : Except Int (List UInt8 × List UInt8)) : Int × Int × Int × ByteArray × Int × Int :=
  match r with
  | .ok (t, l') => (4, 0, 0, bs t, ((s.size - l'.length : Nat) : Int), 0)
  | .error e => (0, 0, 0, ⟨#[]⟩, 0, e)

theorem rtext_ev (s : ByteArray) (hs : s.size ≤ 140737488355327) : ∀ (n a : Nat) (acc : List UInt8), s.size - a ≤ n → a ≤ s.size → acc.length ≤ a → Ev (fun k => freshetref02_text.l0 k s (a : Int) (numsL acc)) (resT s (decT acc (s.data.toList.drop a))) := by
  intro n
  induction n with
  | zero =>
    intro a acc hn ha hl
    have he : a = s.size := by omega
    rw [List.drop_of_length_le (by rw [← Lib.size_eq]; omega), decT_nil]
    refine Ev.step (f := fun k => freshetref02_text.j1 k s (a : Int) (numsL acc) true) (fun k => ?_) (Ev.step (f := fun _ => some _) (fun k => ?_) (Ev.now _))
    · simp only [freshetref02_text.l0]; rw [if_pos (by omega)]
    · simp only [freshetref02_text.j1, if_true]; rfl
  | succ n ih =>
    intro a acc hn ha hl
    cases hd : s.data.toList.drop a with
    | nil =>
      have he := drop_end s a ha hd
      rw [decT_nil]
      refine Ev.step (f := fun k => freshetref02_text.j1 k s (a : Int) (numsL acc) true) (fun k => ?_) (Ev.step (f := fun _ => some _) (fun k => ?_) (Ev.now _))
      · simp only [freshetref02_text.l0]; rw [if_pos (by omega)]
      · simp only [freshetref02_text.j1, if_true]; rfl
    | cons c l =>
      obtain ⟨hlt, hbt, hd1⟩ := drop_at s a c l hd
      by_cases hc : c = 0
      · subst hc
        have hb0 : bt s (a : Int) = 0 := hbt
        have w1 : wrap64 ((a : Int) + 1) = ((a + 1 : Nat) : Int) := by rw [w64k (by omega) (by omega)]; omega
        have w2 : wrap64 ((a : Int) + 2) = ((a + 2 : Nat) : Int) := by rw [w64k (by omega) (by omega)]; omega
        cases l with
        | nil =>
          have he := drop_end s (a + 1) (by omega) hd1
          rw [decT_zero]
          refine Ev.step (f := fun k => freshetref02_text.j1 k s (a : Int) (numsL acc) true) (fun k => ?_) (Ev.step (f := fun _ => some _) (fun k => ?_) (Ev.now _))
          · simp only [freshetref02_text.l0]; rw [if_neg (by omega), if_pos (by omega), if_pos (by omega), if_pos hb0, w1, decide_eq_true (by omega)]
          · simp only [freshetref02_text.j1, if_true]; rfl
        | cons d l' =>
          obtain ⟨hlt2, hbt2, hd2⟩ := drop_at s (a + 1) d l' hd1
          have hJ : ∀ k, freshetref02_text.l0 (k + 1) s (a : Int) (numsL acc) = freshetref02_text.j1 k s (a : Int) (numsL acc) false := by
            intro k
            simp only [freshetref02_text.l0]; rw [if_neg (by omega), if_pos (by omega), if_pos (by omega), if_pos hb0, w1, decide_eq_false (by omega)]
          have hd3 := d.toNat_lt
          by_cases h0 : d = 0
          · subst h0
            have hb1 : bt s ((a + 1 : Nat) : Int) = 0 := hbt2
            rw [decT_end]
            by_cases h4 : acc.length ≤ 4096
            · rw [if_pos h4]
              refine Ev.step hJ (Ev.step (f := fun _ => some _) (fun k => ?_) (Ev.now _))
              simp only [freshetref02_text.j1]
              rw [if_neg Bool.false_ne_true, if_pos (by omega), if_pos (by omega), if_pos hb0, w1, if_pos (by omega), if_pos (by omega), if_pos hb1, if_neg (by rw [numsL_len]; omega), strOf_numsL, w2]
              have hll := drop_len s (a + 2)
              rw [show a + 2 = a + 1 + 1 by omega, hd2] at hll
              have e : s.size - l'.length = a + 2 := by omega
              show _ = some (4, 0, 0, bs acc, ((s.size - l'.length : Nat) : Int), 0)
              rw [e]; rfl
            · rw [if_neg h4]
              refine Ev.step hJ (Ev.step (f := fun _ => some _) (fun k => ?_) (Ev.now _))
              simp only [freshetref02_text.j1]
              rw [if_neg Bool.false_ne_true, if_pos (by omega), if_pos (by omega), if_pos hb0, w1, if_pos (by omega), if_pos (by omega), if_pos hb1, if_pos (by rw [numsL_len]; omega)]
              rfl
          · have hn0 : d.toNat ≠ 0 := fun e => h0 (UInt8.toNat_inj.1 e)
            by_cases hf : d = 255
            · subst hf
              have hb1 : bt s ((a + 1 : Nat) : Int) = 255 := hbt2
              rw [decT_esc0]
              have := ih (a + 2) (acc ++ [0]) (by omega) (by omega) (by simp; omega)
              rw [show a + 2 = a + 1 + 1 by omega, hd2] at this
              refine Ev.step hJ (Ev.step (fun k => ?_) this)
              simp only [freshetref02_text.j1]
              rw [if_neg Bool.false_ne_true, if_pos (by omega), if_pos (by omega), if_pos hb0, w1, if_pos (by omega), if_pos (by omega), if_neg (by rw [hb1]; decide), if_pos hb1, if_pos (by rw [numsL_len]; omega), w2, ← numsL_snoc]
              rfl
            · have hnf : d.toNat ≠ 255 := fun e => hf (UInt8.toNat_inj.1 e)
              rw [decT_odd _ _ _ h0 hf]
              refine Ev.step hJ (Ev.step (f := fun _ => some _) (fun k => ?_) (Ev.now _))
              simp only [freshetref02_text.j1]
              rw [if_neg Bool.false_ne_true, if_pos (by omega), if_pos (by omega), if_pos hb0, w1, if_pos (by omega), if_pos (by omega), if_neg (by rw [hbt2]; omega), if_neg (by rw [hbt2]; omega)]
              rfl
      · have hn0 : c.toNat ≠ 0 := fun e => hc (UInt8.toNat_inj.1 e)
        have hb0 : ¬ bt s (a : Int) = 0 := by rw [hbt]; omega
        have w1 : wrap64 ((a : Int) + 1) = ((a + 1 : Nat) : Int) := by rw [w64k (by omega) (by omega)]; omega
        rw [decT_cons _ _ _ hc]
        have := ih (a + 1) (acc ++ [c]) (by omega) (by omega) (by simp; omega)
        rw [hd1] at this
        refine Ev.step (f := fun k => freshetref02_text.j1 k s (a : Int) (numsL acc) false) (fun k => ?_) (Ev.step (fun k => ?_) this)
        · simp only [freshetref02_text.l0]; rw [if_neg (by omega), if_pos (by omega), if_pos (by omega), if_neg hb0]
        · simp only [freshetref02_text.j1]
          rw [if_neg Bool.false_ne_true, if_pos (by omega), if_pos (by omega), if_neg hb0, if_pos (by rw [numsL_len]; omega), w1, hbt, numsL_snoc]

/-- a row or an error, as the print has them -/
def resD (r : Except Int (List V)) : List S56 × Int := match r with | .ok l => (l.map ofV, 0) | .error c => ([], c)

theorem rdec_ev (s : ByteArray) (hs : s.size ≤ 140737488355327) : ∀ (n a : Nat) (acc : List V), s.size - a ≤ n → a ≤ s.size → acc.length ≤ a →
    Ev (fun k => freshetref02_Decode.l0 k s (acc.map ofV) (a : Int)) (resD (decR ((s.data.toList.drop a).length + 1) acc (s.data.toList.drop a))) := by
  intro n
  induction n with
  | zero =>
    intro a acc hn ha hl
    have he : a = s.size := by omega
    rw [List.drop_of_length_le (by rw [← Lib.size_eq]; omega), decR_end]
    refine Ev.step (f := fun _ => some _) (fun k => ?_) (Ev.now _)
    simp only [freshetref02_Decode.l0]; rw [if_neg (by omega)]; rfl
  | succ n ih =>
    intro a acc hn ha hl
    cases hd : s.data.toList.drop a with
    | nil =>
      have he := drop_end s a ha hd
      rw [decR_end]
      refine Ev.step (f := fun _ => some _) (fun k => ?_) (Ev.now _)
      simp only [freshetref02_Decode.l0]; rw [if_neg (by omega)]; rfl
    | cons c l =>
      obtain ⟨hlt, hbt, hd1⟩ := drop_at s a c l hd
      have hc3 := c.toNat_lt
      have w1 : Hid (wrap64 ((a : Int) + 1) = ((a + 1 : Nat) : Int)) := hidF (by rw [w64k (by omega) (by omega)]; omega)
      have wc : Hid (wrap64 (bt s (a : Int)) = (c.toNat : Int)) := hidF (by rw [hbt, w64k (by omega) (by omega)])
      have hll := drop_len s (a + 1)
      rw [hd1] at hll
      by_cases h1 : acc.length < 1024
      · have g0 : ¬ (((acc.map ofV).length : Nat) : Int) ≥ 1024 := by rw [List.length_map]; omega
        have gl : (acc.map ofV).length < 3518437208883 := by rw [List.length_map]; omega
        have nxt : ∀ (x : V) (l' : List UInt8), decV (c :: l) = .ok (x, l') → Ev (fun k => freshetref02_Decode.l0 k s (acc.map ofV ++ [ofV x]) ((s.size - l'.length : Nat) : Int)) (resD (decR ((c :: l).length + 1) acc (c :: l))) := by
          intro x l' hx
          have hlt' := decV_lt hx
          have hdr : s.data.toList.drop (s.size - l'.length) = l' := by
            have e := (enc_decV hx).1
            rw [← hd] at e
            have h2 := congrArg (fun z => z.drop (encV x).length) e
            simp only [List.drop_drop, List.drop_left] at h2
            have h3 := congrArg List.length e
            rw [drop_len, List.length_append] at h3
            rw [← h2]
            congr 1
            rw [h2]; omega
          have := ih (s.size - l'.length) (acc ++ [x]) (by simp at hlt'; omega) (by omega) (by have := drop_len s a; rw [hd] at this; simp at this hlt' ⊢; omega)
          rw [hdr, ← decR_step acc (c :: l) l' (by simp) h1 x hx, List.map_append] at this
          exact this
        have bad : ∀ e, decV (c :: l) = .error e → resD (decR ((c :: l).length + 1) acc (c :: l)) = ([], e) := by
          intro e he
          rw [decR_bad acc (c :: l) (by simp) _ h1 e he]; rfl
        have hV := hd
        by_cases k0 : c.toNat = 0
        · have hx : decV (c :: l) = .ok (⟨0, 0, 0, ⟨#[]⟩⟩, l) := by rw [decV, if_pos k0]
          have N := nxt _ _ hx
          rw [show s.size - l.length = a + 1 by omega] at N
          refine Ev.step (fun k => ?_) N
          simp only [freshetref02_Decode.l0]
          rw [if_pos (by omega), if_neg g0, if_pos (by omega), wc.out, if_neg (by omega), if_neg (by omega), if_neg (by omega), if_pos gl, w1.out]
          rfl
        · by_cases k3 : c.toNat ≤ 3
          · by_cases h8 : l.length < 8
            · have hx : decV (c :: l) = .error 3 := by rw [decV, if_neg k0, if_pos k3, if_pos h8]
              rw [bad _ hx]
              refine Ev.step (f := fun _ => some _) (fun k => ?_) (Ev.now _)
              simp only [freshetref02_Decode.l0]
              rw [if_pos (by omega), if_neg g0, if_pos (by omega), wc.out, if_neg (by omega), if_neg (by omega), if_pos (by omega), w1.out, if_pos (by rw [w64k (by omega) (by omega)]; omega)]
            · have w8 : Hid (wrap64 (((a + 1 : Nat) : Int) + 8) = ((a + 9 : Nat) : Int)) := hidF (by rw [w64k (by omega) (by omega)]; omega)
              have hex : s.extract (((a + 1 : Nat) : Int)).toNat (((a + 9 : Nat) : Int)).toNat = bs (l.take 8) := by
                simp only [Int.toNat_natCast]
                have e : s = bs s.data.toList := rfl
                rw [e, bs_extract, List.drop_take, hd1, show a + 9 - (a + 1) = 8 by omega]
              have hz : (bs (l.take 8)).size = 8 := by rw [bs_size, List.length_take]; omega
              have hnx : xrNumber.f (c.toNat : Int) (bs (l.take 8)) = some (numP (c.toNat : Int) (bs (l.take 8))) := by
                unfold xrNumber.f; rw [if_pos ⟨by omega, hz⟩]
              have pre : ∀ k, freshetref02_Decode.l0 (k + 1) s (acc.map ofV) (a : Int) = (some (numP (c.toNat : Int) (bs (l.take 8)))).bind fun bt144 => (if bt144.2.2.2.2 = 0 then (if (acc.map ofV).length < 3518437208883 then (freshetref02_Decode.l0 k s (acc.map ofV ++ [(⟨bt144.1, bt144.2.1, bt144.2.2.1, bt144.2.2.2.1⟩ : S56)]) ((a + 9 : Nat) : Int)) else (none)) else (some (([] : List S56), bt144.2.2.2.2))) := by
                intro k
                simp only [freshetref02_Decode.l0]
                rw [if_pos (by omega), if_neg g0, if_pos (by omega), wc.out, if_neg (by omega), if_neg (by omega), if_pos (by omega), w1.out, if_neg (by rw [w64k (by omega) (by omega)]; omega), if_pos (by omega), w8.out, if_pos (by omega), if_pos (by omega), hex, hnx]
              cases hsv : sV (ofWord c.toNat (numB (l.take 8)))
              · have hx : decV (c :: l) = .error 4 := by rw [decV, if_neg k0, if_pos k3, if_neg h8, hsv]; rfl
                rw [bad _ hx]
                refine Ev.step (f := fun _ => some _) (fun k => ?_) (Ev.now _)
                rw [pre]
                unfold numP
                rw [bs_list, hsv]
                simp only [Bool.false_eq_true, if_false, Option.bind_some]
                rw [if_neg (by decide)]
              · have hx : decV (c :: l) = .ok (ofWord c.toNat (numB (l.take 8)), l.drop 8) := by rw [decV, if_neg k0, if_pos k3, if_neg h8, hsv]; rfl
                have N := nxt _ _ hx
                rw [show s.size - (l.drop 8).length = a + 9 by rw [List.length_drop]; omega] at N
                refine Ev.step (fun k => ?_) N
                rw [pre]
                unfold numP
                rw [bs_list, hsv]
                simp only [if_true, Option.bind_some]
                rw [if_pos gl]
                rfl
          · by_cases k4 : c.toNat = 4
            · have hT := rtext_ev s hs (s.size - (a + 1)) (a + 1) [] (by omega) (by omega) (by simp)
              rw [hd1] at hT
              have hTf : Ev (fun k => freshetref02_text.f k s ((a + 1 : Nat) : Int)) (resT s (decT [] l)) := hT
              have pre : ∀ k, freshetref02_Decode.l0 (k + 1) s (acc.map ofV) (a : Int) = (freshetref02_text.f k s ((a + 1 : Nat) : Int)).bind fun bt134 => (if bt134.2.2.2.2.2 = 0 then (if (acc.map ofV).length < 3518437208883 then (freshetref02_Decode.l0 k s (acc.map ofV ++ [(⟨bt134.1, bt134.2.1, bt134.2.2.1, bt134.2.2.2.1⟩ : S56)]) bt134.2.2.2.2.1) else (none)) else (some (([] : List S56), bt134.2.2.2.2.2))) := by
                intro k
                simp only [freshetref02_Decode.l0]
                rw [if_pos (by omega), if_neg g0, if_pos (by omega), wc.out, if_neg (by omega), if_pos (by omega), w1.out]
              cases hdt : decT [] l with
              | error e =>
                have hx : decV (c :: l) = .error e := by rw [decV, if_neg k0, if_neg k3, if_pos k4, hdt]
                have he0 : e ≠ 0 := by
                  have := dec_err ((c :: l).length + 1) acc (c :: l) e (by omega) (decR_bad acc (c :: l) (by simp) _ h1 e hx)
                  omega
                rw [bad _ hx]
                rw [hdt] at hTf
                refine Ev.step pre (Ev.bind hTf (Ev.congr (fun k => ?_) (Ev.now _)))
                unfold resT
                simp only
                rw [if_neg he0]
              | ok r =>
                obtain ⟨t, l'⟩ := r
                have hx : decV (c :: l) = .ok (⟨4, 0, 0, ⟨t.toArray⟩⟩, l') := by rw [decV, if_neg k0, if_neg k3, if_pos k4, hdt]
                have N := nxt _ _ hx
                rw [hdt] at hTf
                refine Ev.step pre (Ev.bind hTf (Ev.congr (fun k => ?_) N))
                unfold resT
                simp only
                rw [if_pos trivial, if_pos gl]
                rfl
            · have hx : decV (c :: l) = .error 4 := by rw [decV, if_neg k0, if_neg k3, if_neg k4]
              rw [bad _ hx]
              refine Ev.step (f := fun _ => some _) (fun k => ?_) (Ev.now _)
              simp only [freshetref02_Decode.l0]
              rw [if_pos (by omega), if_neg g0, if_pos (by omega), wc.out, if_pos (by omega)]
      · rw [decR_many acc (c :: l) (by simp) _ h1]
        refine Ev.step (f := fun _ => some _) (fun k => ?_) (Ev.now _)
        simp only [freshetref02_Decode.l0]
        rw [if_pos (by omega), if_pos (by rw [List.length_map]; omega)]
        rfl

theorem reads_ev (s : ByteArray) (hs : s.size ≤ 140737488355327) : Ev (fun k => freshetlaw02_RowReads.f k s) true := by
  have hx : xDecode.f s = some (resD (decB s.data.toList)) := by
    unfold xDecode.f
    rw [if_pos hs]; rfl
  have hR : Ev (fun k => freshetref02_Decode.f k s) (resD (decB s.data.toList)) := by
    have := rdec_ev s hs s.size 0 [] (by omega) (by omega) (by simp)
    rw [List.drop_zero] at this
    exact this
  have hlen : (resD (decB s.data.toList)).1.length ≤ 1024 := by
    cases h : decB s.data.toList with
    | ok l => have := (enc_dec h).2.2; show (l.map ofV).length ≤ 1024; rw [List.length_map]; exact this
    | error e => show ([] : List S56).length ≤ 1024; simp
  have hsm := same_ev (resD (decB s.data.toList)).1 (resD (decB s.data.toList)).1 (by omega)
  rw [decide_eq_true rfl] at hsm
  refine Ev.congr (f := fun k => (freshetref02_Decode.f k s).bind fun bt106 => ((freshetref02_Same.f k (resD (decB s.data.toList)).1 bt106.1).bind fun t110 => (if t110 = true then (some ((resD (decB s.data.toList)).2 == bt106.2)) else (some false)))) (fun k => ?_) (Ev.bind hR (Ev.bind hsm (Ev.congr (fun k => by rw [if_pos rfl, beq_self_eq_true]) (Ev.now true))))
  simp only [freshetlaw02_RowReads.f, xAwake2.f, Option.bind_some]
  rw [if_pos trivial, hx, Option.bind_some]

theorem walkRowReads (w : World) (a0 : ByteArray) (h0 : a0.size ≤ 140737488351232) (ht : RTab w) :
    Calls Tryd.prog 6 #[.string a0] w fun e w' => e = .returned (.bool true) ∧ Below w.heap.size w w' := by
  obtain ⟨k, hk⟩ := (reads_ev a0 (by omega)).rounds
  exact freshetlaw02_RowReads.calls k a0 true w ht hk

end Go.Proofs.YthpkjkcfhipjhaaDoor
