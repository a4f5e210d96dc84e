/- Plain: a token that is written is read again as the same. -/
import Derived.Test.YtlaafpbhhnehgaaDoorLQ1
import Derived.Test.YtlaafpbhhnehgaaDoorLN1
namespace Go.Proofs.YtlaafpbhhnehgaaDoor
set_option linter.unusedVariables false
set_option linter.unusedSimpArgs false
open Go.RowKit

/-- how a token is written -/
def tokW (k : Int) (x : List UInt8) : List UInt8 := if k = 1 then (nameW x).1 else if k = 5 then quoteL 39 x else x
def Cont (r : List UInt8) : Prop := r = [] ∨ ∃ t, r = 32 :: t
/-- w is read as the token (k, x), whatever stands behind a blank -/
structure Rd (w : List UInt8) (k : Int) (x : List UInt8) : Prop where
  ne : w ≠ []
  skip : ∀ r, Cont r → skipL 0 [] (w ++ r) = (w ++ r, true)
  tok : ∀ r, Cont r → tokL (w ++ r) = some (k, x, w.length)

theorem run_to (p : Int → Bool) : ∀ (x : List UInt8) (r : List UInt8), (∀ b ∈ x, p b.toNat = true) → (∀ c t, r = c :: t → p c.toNat = false) → runL p (x ++ r) = x.length
  | [], r, _, h => by
    match r with
    | [] => rfl
    | c :: t => rw [List.nil_append, runL, h c t rfl]; rfl
  | c :: t, r, h1, h2 => by
    rw [List.cons_append, runL, if_pos (h1 c (List.mem_cons_self ..)), run_to p t r (fun b hb => h1 b (List.mem_cons_of_mem _ hb)) h2]; rfl

theorem cont_not {p : Int → Bool} (hp : p 32 = false) {r : List UInt8} (h : Cont r) : ∀ c t, r = c :: t → p c.toNat = false := by
  intro c t hr
  rcases h with rfl | ⟨u, rfl⟩
  · cases hr
  · obtain ⟨rfl, rfl⟩ := List.cons.inj hr; exact hp
theorem cont_pre {r : List UInt8} (h : Cont r) (q : UInt8) (hq : q ≠ 32) : Lib.hasPrefix r [q] = false := by
  rcases h with rfl | ⟨u, rfl⟩
  · rfl
  · simp [Lib.hasPrefix, List.isPrefixOf]; exact hq

theorem skip_plain {c : UInt8} {t : List UInt8} (h1 : sp c = false) (h2 : c ≠ 45) (h3 : c ≠ 47) : skipL 0 [] (c :: t) = (c :: t, true) := by
  rw [skipL]; simp [h1, h2, h3]

theorem inn_sp {c : UInt8} (h : isInn c.toNat = true) : sp c = false ∧ c ≠ 45 ∧ c ≠ 47 := by
  have : ∀ n : Fin 256, isInn (n.1 : Int) = true → sp (UInt8.ofNat n.1) = false ∧ UInt8.ofNat n.1 ≠ 45 ∧ UInt8.ofNat n.1 ≠ 47 := by decide +kernel
  have h2 := this ⟨c.toNat, c.toNat_lt⟩ h
  simpa using h2

theorem words_caps : wordsL.all (fun w => w.all capB && decide (0 < w.length)) = true := by decide +kernel
theorem cap_facts (c : UInt8) (h : capB c = true) : isLet c.toNat = true ∧ Lib.upperB c = c := by
  have : ∀ n : Fin 256, capB (UInt8.ofNat n.1) = true → isLet ((UInt8.ofNat n.1).toNat : Int) = true ∧ Lib.upperB (UInt8.ofNat n.1) = UInt8.ofNat n.1 := by decide +kernel
  have h2 := this ⟨c.toNat, c.toNat_lt⟩ (by simpa using h)
  simpa using h2
theorem map_self {f : UInt8 → UInt8} : ∀ {l : List UInt8}, (∀ b ∈ l, f b = b) → l.map f = l
  | [], _ => rfl
  | c :: t, h => by rw [List.map_cons, h c (List.mem_cons_self ..), map_self (fun b hb => h b (List.mem_cons_of_mem _ hb))]

theorem rd_word {x : List UInt8} (h : isWd x = true) : Rd x 2 x := by
  have hm : x ∈ wordsL := by unfold isWd at h; simpa using h
  have hc := List.all_eq_true.1 words_caps x hm
  simp only [Bool.and_eq_true, decide_eq_true_eq] at hc
  obtain ⟨hc, hl⟩ := hc
  have hall := List.all_eq_true.1 hc
  match x, h, hl, hall with
  | c :: t, h, hl, hall =>
  have hlet := (cap_facts c (hall c (List.mem_cons_self ..))).1
  have hinn : ∀ b ∈ c :: t, isInn b.toNat = true := fun b hb => by unfold isInn; rw [(cap_facts b (hall b hb)).1]; rfl
  have hup : Lib.toUpperA (c :: t) = c :: t := map_self (fun b hb => (cap_facts b (hall b hb)).2)
  have hsp := inn_sp (hinn c (List.mem_cons_self ..))
  refine ⟨by simp, fun r _ => skip_plain hsp.1 hsp.2.1 hsp.2.2, fun r hr => ?_⟩
  have hrun := run_to isInn (c :: t) r hinn (cont_not (by decide) hr)
  rw [List.cons_append, tokL, if_pos hlet, ← List.cons_append]
  unfold wordT
  rw [hrun, List.take_left, hup, if_pos h]

theorem bare_facts (c : UInt8) (h : bareB c = true) : isInn c.toNat = true ∧ Lib.lowerB c = c := by
  have : ∀ n : Fin 256, bareB (UInt8.ofNat n.1) = true → isInn ((UInt8.ofNat n.1).toNat : Int) = true ∧ Lib.lowerB (UInt8.ofNat n.1) = UInt8.ofNat n.1 := by decide +kernel
  have h2 := this ⟨c.toNat, c.toNat_lt⟩ (by simpa using h)
  simpa using h2

theorem bet_dbl (q : UInt8) (r : List UInt8) (hr : Lib.hasPrefix r [q] = false) : ∀ x : List UInt8, betL q (dbl q x ++ q :: r) = some (x, (dbl q x).length + 1)
  | [] => betL_end q r hr
  | c :: t => by
    have ih := bet_dbl q r hr t
    unfold dbl
    by_cases hc : c = q
    · rw [if_pos hc, List.cons_append, List.cons_append, betL_two, ih, hc]; rfl
    · rw [if_neg hc, List.cons_append, betL_ne _ _ _ hc, ih]; rfl

theorem rd_name {x : List UInt8} (h : nameP x = true) : Rd (nameW x).1 1 x := by
  have hp := h
  simp only [nameP, Bool.and_eq_true, decide_eq_true_eq] at hp
  have hw : (nameW x).1 = if bareP x then x else quoteL 34 x := by unfold nameW; rw [h]; rfl
  rw [hw]
  cases hb : bareP x
  · rw [if_neg Bool.false_ne_true]
    refine ⟨by simp [quoteL], fun r _ => skip_plain (by decide) (by decide) (by decide), fun r hr => ?_⟩
    have hbet := bet_dbl 34 r (cont_pre hr 34 (by decide)) x
    have e : quoteL 34 x ++ r = 34 :: (dbl 34 x ++ 34 :: r) := by simp [quoteL]
    rw [e, tokL, if_neg (by decide), if_neg (by decide), if_pos rfl, hbet]
    simp only [nameT]
    rw [nameL_eq, h, if_pos rfl]
    simp [quoteL]
  · rw [if_pos rfl]
    unfold bareP at hb
    match x, hb, hp with
    | c :: t, hb, hp =>
    simp only [Bool.and_eq_true, Bool.not_eq_true'] at hb
    obtain ⟨⟨hd, hall⟩, hnw⟩ := hb
    have hall := List.all_eq_true.1 hall
    have hinn : ∀ b ∈ c :: t, isInn b.toNat = true := fun b hb => (bare_facts b (hall b hb)).1
    have hlet : isLet c.toNat = true := by
      have := hinn c (List.mem_cons_self ..)
      unfold isInn at this
      rw [hd, Bool.or_false] at this; exact this
    have hlow : Lib.toLowerA (c :: t) = c :: t := map_self (fun b hb => (bare_facts b (hall b hb)).2)
    have hsp := inn_sp (hinn c (List.mem_cons_self ..))
    refine ⟨by simp, fun r _ => skip_plain hsp.1 hsp.2.1 hsp.2.2, fun r hr => ?_⟩
    have hrun := run_to isInn (c :: t) r hinn (cont_not (by decide) hr)
    rw [List.cons_append, tokL, if_pos hlet, ← List.cons_append]
    unfold wordT
    rw [hrun, List.take_left, if_neg (by rw [hnw]; exact Bool.false_ne_true), if_pos hp.1.1.2, hlow]

theorem rd_text {x : List UInt8} (h : x.length ≤ 4096) : Rd (quoteL 39 x) 5 x := by
  refine ⟨by simp [quoteL], fun r _ => skip_plain (by decide) (by decide) (by decide), fun r hr => ?_⟩
  have hbet := bet_dbl 39 r (cont_pre hr 39 (by decide)) x
  have e : quoteL 39 x ++ r = 39 :: (dbl 39 x ++ 39 :: r) := by simp [quoteL]
  rw [e, tokL, if_neg (by decide), if_neg (by decide), if_neg (by decide), if_pos rfl, hbet]
  simp only [textT]
  rw [if_pos h]
  simp [quoteL]

theorem dig_facts (c : UInt8) (h : isDig c.toNat = true) : isLet c.toNat = false ∧ isInn c.toNat = true := by
  simp only [isDig, Bool.and_eq_true, decide_eq_true_eq] at h
  refine ⟨?_, by unfold isInn isDig; rw [decide_eq_true h.1, decide_eq_true h.2]; simp⟩
  unfold isLet
  rw [Bool.eq_false_iff]
  simp only [ne_eq, Bool.or_eq_true, Bool.and_eq_true, decide_eq_true_eq, beq_iff_eq]
  omega

theorem rd_dec {A B : List UInt8} (hA : ∀ b ∈ A, isDig b.toNat = true) (hB : ∀ b ∈ B, isDig b.toNat = true) (hA0 : A ≠ []) (hB0 : B ≠ []) (hl : A.length + 1 + B.length ≤ 16) : Rd (A ++ 46 :: B) 4 (A ++ 46 :: B) := by
  match A, B, hA0, hB0, hA, hB with
  | c :: a, d :: b, _, _, hA, hB =>
  have hc := hA c (List.mem_cons_self ..)
  obtain ⟨f1, f2⟩ := dig_facts c hc
  have hsp := inn_sp f2
  refine ⟨by simp, fun r _ => skip_plain hsp.1 hsp.2.1 hsp.2.2, fun r hr => ?_⟩
  have e : (c :: a ++ 46 :: (d :: b)) ++ r = (c :: a) ++ 46 :: ((d :: b) ++ r) := by simp
  have hrun : runL isDig ((c :: a) ++ 46 :: ((d :: b) ++ r)) = (c :: a).length := run_to isDig (c :: a) _ hA (fun x t hx => by obtain ⟨rfl, rfl⟩ := List.cons.inj hx; decide)
  have hrun2 : runL isDig ((d :: b) ++ r) = (d :: b).length := run_to isDig (d :: b) r hB (cont_not (by decide) hr)
  have hdot : dotD ((c :: a) ++ 46 :: ((d :: b) ++ r)) (c :: a).length = true := by
    unfold dotD
    rw [List.drop_left]
    simp only [List.cons_append]
    rw [hB d (List.mem_cons_self ..)]; rfl
  have hd1 : ((c :: a) ++ 46 :: ((d :: b) ++ r)).drop ((c :: a).length + 1) = (d :: b) ++ r := by
    rw [← List.drop_drop, List.drop_left]; rfl
  have ht : tokL ((c :: a) ++ 46 :: ((d :: b) ++ r)) = numT ((c :: a) ++ 46 :: ((d :: b) ++ r)) := by
    rw [List.cons_append, tokL, if_neg (by rw [f1]; exact Bool.false_ne_true), if_pos hc]
  rw [e, ht]
  unfold numT
  rw [hrun, hdot, if_pos rfl, hd1, hrun2, if_pos (by simpa using hl)]
  have hlen : (c :: a).length + 1 + (d :: b).length = (c :: a ++ 46 :: (d :: b)).length := by simp; omega
  rw [hlen, ← e, List.take_left]

theorem rd_int {A : List UInt8} {d : UInt8} (hA : ∀ b ∈ A, isDig b.toNat = true) (hd : isDig d.toNat = true) (hz : Lib.trimLeftB A 48 = A) (hok : intOk (A ++ [d]) = true) : Rd (A ++ [d]) 3 (A ++ [d]) := by
  have hall : ∀ b ∈ A ++ [d], isDig b.toNat = true := by
    intro b hb
    rcases List.mem_append.1 hb with hb | hb
    · exact hA b hb
    · have : b = d := by simpa using hb
      rw [this]; exact hd
  obtain ⟨c, t, hct⟩ : ∃ c t, A ++ [d] = c :: t := by
    cases A with
    | nil => exact ⟨d, [], rfl⟩
    | cons x y => exact ⟨x, y ++ [d], rfl⟩
  have hc : isDig c.toNat = true := hall c (by rw [hct]; exact List.mem_cons_self ..)
  obtain ⟨f1, f2⟩ := dig_facts c hc
  have hsp := inn_sp f2
  refine ⟨by simp, fun r _ => by rw [hct]; exact skip_plain hsp.1 hsp.2.1 hsp.2.2, fun r hr => ?_⟩
  have hrun : runL isDig ((A ++ [d]) ++ r) = (A ++ [d]).length := run_to isDig _ r hall (cont_not (by decide) hr)
  have hdot : dotD ((A ++ [d]) ++ r) (A ++ [d]).length = false := by
    unfold dotD
    rw [List.drop_left]
    rcases hr with rfl | ⟨u, rfl⟩
    · rfl
    · cases u <;> rfl
  have ht : tokL ((A ++ [d]) ++ r) = numT ((A ++ [d]) ++ r) := by
    rw [hct, List.cons_append, tokL, if_neg (by rw [f1]; exact Bool.false_ne_true), if_pos hc]
  have hbn : bareN ((A ++ [d]) ++ r) (A ++ [d]).length = A ++ [d] := by
    unfold bareN
    have e : (A ++ [d]).length - 1 = A.length := by simp
    rw [e, List.append_assoc, List.take_left, List.drop_left, hz]; simp
  rw [ht]
  unfold numT
  rw [hrun, hdot, if_neg Bool.false_ne_true, hbn, if_pos hok]

end Go.Proofs.YtlaafpbhhnehgaaDoor
