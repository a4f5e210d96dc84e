/- a part of the claim: what the card leans on, out of the texts L1, L2, LP1, LP2, Shelf, L3, LB (put together by wip/tools/shake.py). -/
import Derived.Test.YtlaafpbhhnehgaaDoorRows
import Derived.WalkKit
import Derived.WalkSpells
import Derived.WalkLawsBesides
import Derived.Deep.QuietTactic
import Derived.BigQuiet
import Derived.Laws.Externs
import Derived.Shelf.Abstract
import Derived.Lib.Replace
import Derived.Lib.CountLaws
import Derived.Lib.IndexBytes
import Derived.Lib.SlTrimSet
import Derived.Lib.IndexMore
import Derived.Shelf.Strings.Builder1
import Derived.Shelf.Strings.Builder2
import Derived.Shelf.Strings.OnBuilder
import Derived.Shelf.Strings.Trim
import Derived.Shelf.Small.Utf8
import Derived.Shelf.Small.Strs
import Derived.Shelf.Strings.BuilderF
import Derived.Shelf.Strings.BuilderK
import Derived.Shelf.Utf8.RuneCount
import Derived.Shelf.Strings.Builder2Cap
import Derived.Shelf.Strings.Search1
import Derived.Shelf.Strings.Search2
import Derived.Shelf.Strings.Search3
import Derived.Shelf.Strings.Cut
import Derived.Shelf.Strings.Count
import Derived.Shelf.LaysM
import Derived.Shelf.Strings.Shaped
import Derived.Shelf.GgClosure.StringsIndexFunc
import Derived.Ground.GgwProg
import Derived.Shelf.GgClosure.StringsIndexFuncTop
import Derived.Shelf.GgClosure.StringsRunes
import Derived.Shelf.Strings.Prefix
import Derived.Shelf.Strings.Split
import Derived.Shelf.Strings.Fields
import Derived.Shelf.Strings.Replace
import Derived.Shelf.Strings.SplitShaped
import Derived.Shelf.Unicode.Latin
import Derived.Shelf.Strings.Runes
import Derived.Shelf.Strings.RuneCount
import Derived.Shelf.Strings.AsciiSet
import Derived.Shelf.Unicode.DecodeSlow
import Derived.Shelf.Unicode.DecodeAny
import Derived.Shelf.Unicode.Is16White
import Derived.Shelf.Unicode.IsSpaceAny
import Derived.Shelf.Unicode.Is16WhiteD
import Derived.Shelf.Unicode.IsSpaceAnyD
import Derived.Shelf.Strings.FieldsAny
import Derived.Shelf.Strings.FieldsFuncAny
import Derived.Shelf.Unicode.CaseLookup
import Derived.Shelf.Unicode.CaseConvert
import Derived.Shelf.Unicode.CaseTo
import Derived.Shelf.Unicode.CaseLaid
import Derived.Shelf.Unicode.Is16Any
import Derived.Shelf.Unicode.Is32Any
import Derived.Shelf.Unicode.ExclAny
import Derived.Shelf.Strings.FuncGrows
import Derived.Shelf.Strings.BuilderCap
import Derived.Test.YtlaafpbhhnehgaaDoorProg
import Derived.Lib.Builder
import Derived.Lib.AppendStr
import Derived.Lib.UnsafeStr
section
namespace Go.Proofs.YtlaafpbhhnehgaaDoor
set_option linter.unusedVariables false
set_option linter.unusedSimpArgs false
open Go.RowKit
theorem bcell {W w1 : World} (hb : Below W.heap.size W w1) : (∀ b o, b < W.heap.size → w1.cell? ⟨b, o, none⟩ = W.cell? ⟨b, o, none⟩) ∧ (∀ b o, b < W.heap.size → w1.frozen? ⟨b, o, none⟩ = W.frozen? ⟨b, o, none⟩) :=
  ⟨fun b o h => hb.cell (p := ⟨b, o, none⟩) h, fun b o h => hb.frozen (p := ⟨b, o, none⟩) h⟩
theorem below_via {a W w1 : World} (hb : Below W.heap.size W w1) (h : Below a.heap.size a W) : Below a.heap.size a w1 := h.trans (hb.mono h.size)
theorem below_al {a w : World} (h : Below a.heap.size a w) (o : Obj) : Below a.heap.size a (w.alloc o) := h.alloc h.size o
theorem below_sc {B : Nat} {a w : World} {p : Addr} (hp : B ≤ p.block) (h : Below B a w) (u : Value) : Below B a (w.setCell p u) := h.setCell hp u
theorem below_al2 {B : Nat} {a w : World} (hB : B ≤ w.heap.size) (h : Below B a w) (o : Obj) : Below B a (w.alloc o) := h.alloc hB o
theorem below_undrew {w w' : World} (h : Below w.drew.heap.size w.drew w') : Below w.heap.size w w' := ⟨h.os, h.tape, h.output, h.size, h.block⟩
theorem below_undrewN {w w' : World} {n : Nat} (h : Below (w.drewN n).heap.size (w.drewN n) w') : Below w.heap.size w w' := ⟨h.os, h.tape, h.output, h.size, h.block⟩
theorem below_box (w : World) (o : Obj) : Below w.heap.size w (w.alloc o) := (Below.refl _ _).alloc (Nat.le_refl _) _
/-- what a scan gives up with -/
def fl (p : Int) : List PanicEntry := [{ v := .iface 38 (.agg #[.int .i64 p]), recovered := false }]
/-- the scanner in block b -/
structure Sc (w : World) (b : Nat) (s : ByteArray) (p : Int) : Prop where
  c0 : w.cell? ⟨b, 0, none⟩ = some (.string s)
  c1 : w.cell? ⟨b, 1, none⟩ = some (.int .i64 p)
  f1 : w.frozen? ⟨b, 1, none⟩ = false
theorem must_t (b : Nat) (w : World) : Calls Tryd.prog 22 #[.pointer (some ⟨b, 0, none⟩), .bool true] w fun e w' => e = .returned (.tuple #[]) ∧ Below w.heap.size w w' := by
  go_enter Tryd.func22, Tryd.ntmps22
  go_wp2
  go_end0
  exact ⟨rfl, Below.refl _ _⟩
theorem must_f (b : Nat) (s : ByteArray) (p : Int) (w : World) (h : Sc w b s p) : Calls Tryd.prog 22 #[.pointer (some ⟨b, 0, none⟩), .bool false] w fun e w' => e = .panicked (fl p) ∧ Below w.heap.size w w' := by
  obtain ⟨c0, c1, f1⟩ := h
  go_enter Tryd.func22, Tryd.ntmps22
  go_wp2
  refine ⟨rfl, rfl, ?_⟩
  exact (by repeat (first | (with_reducible exact Below.refl _ _) | (with_reducible refine below_al ?_ _) | (with_reducible refine below_drewN ?_ _) | (with_reducible refine Below.drew ?_) | (with_reducible refine below_via (by assumption) ?_) | (with_reducible refine below_sc ?_ ?_ _; · (first | (simp; done) | (simp; omega) | omega))))
/-- what stands behind a place -/
def dropB (s : ByteArray) (n : Int) : ByteArray := s.extract n.toNat s.size
set_option maxRecDepth 100000 in
theorem rest_c (b : Nat) (s : ByteArray) (p : Int) (w : World) (h : Sc w b s p) (h0 : 0 ≤ p) (h1 : p ≤ s.size) :
    Calls Tryd.prog 21 #[.pointer (some ⟨b, 0, none⟩)] w fun e w' => e = .returned (.string (dropB s p)) ∧ Below w.heap.size w w' := by
  obtain ⟨c0, c1, f1⟩ := h
  go_enter Tryd.func21, Tryd.ntmps21
  go_wp2
  repeat (go_quiet (fail); try go_wp2)
  go_ret
  exact ⟨rfl, (by repeat (first | (with_reducible exact Below.refl _ _) | (with_reducible refine below_al ?_ _) | (with_reducible refine below_drewN ?_ _) | (with_reducible refine Below.drew ?_) | (with_reducible refine below_via (by assumption) ?_) | (with_reducible refine below_sc ?_ ?_ _; · (first | (simp; done) | (simp; omega) | omega))))⟩
def isDig (c : Int) : Bool := decide (48 ≤ c) && decide (c ≤ 57)
def isLet (c : Int) : Bool := (decide (97 ≤ c) && decide (c ≤ 122)) || (decide (65 ≤ c) && decide (c ≤ 90)) || c == 95
def isInn (c : Int) : Bool := isLet c || isDig c
theorem or32 : ∀ n : Fin 256, (decide (97 ≤ bits .or .u8 (n.val : Int) 32) && decide (bits .or .u8 (n.val : Int) 32 ≤ 122) || (n.val : Int) == 95) = isLet (n.val : Int) := by decide +kernel
theorem isDigit_c (c : Int) (w : World) : Calls Tryd.prog 29 #[.int .u8 c] w fun e w' => e = .returned (.bool (isDig c)) ∧ Below w.heap.size w w' := by
  go_enter Tryd.func29, Tryd.ntmps29
  go_wp2
  all_goals go_ret
  all_goals refine ⟨?_, (by repeat (first | (with_reducible exact Below.refl _ _) | (with_reducible refine below_al ?_ _) | (with_reducible refine below_drewN ?_ _) | (with_reducible refine Below.drew ?_) | (with_reducible refine below_via (by assumption) ?_) | (with_reducible refine below_sc ?_ ?_ _; · (first | (simp; done) | (simp; omega) | omega))))⟩
  all_goals (simp [isDig, *]; try omega)
theorem isLetter_c (c : Int) (h0 : 0 ≤ c) (h1 : c ≤ 255) (w : World) : Calls Tryd.prog 45 #[.int .u8 c] w fun e w' => e = .returned (.bool (isLet c)) ∧ Below w.heap.size w w' := by
  have h := or32 ⟨c.toNat, by omega⟩
  simp only [show ((c.toNat : Nat) : Int) = c by omega] at h
  rw [← h]
  clear h
  go_enter Tryd.func45, Tryd.ntmps45
  go_wp2
  all_goals go_ret
  all_goals refine ⟨?_, (by repeat (first | (with_reducible exact Below.refl _ _) | (with_reducible refine below_al ?_ _) | (with_reducible refine below_drewN ?_ _) | (with_reducible refine Below.drew ?_) | (with_reducible refine below_via (by assumption) ?_) | (with_reducible refine below_sc ?_ ?_ _; · (first | (simp; done) | (simp; omega) | omega))))⟩
  all_goals (simp [*]; try omega)
theorem isInner_c (c : Int) (h0 : 0 ≤ c) (h1 : c ≤ 255) (w : World) : Calls Tryd.prog 28 #[.int .u8 c] w fun e w' => e = .returned (.bool (isInn c)) ∧ Below w.heap.size w w' := by
  unfold isInn
  go_enter Tryd.func28, Tryd.ntmps28
  go_wp2_with (first | (go_at_call 45; (fail_if_success (have := w1)); ((with_reducible refine (isLetter_c _ h0 h1 _).mono ?_); rintro e w1 ⟨rfl, hb1⟩; (try (replace hb1 := below_undrew hb1)); (try (replace hb1 := below_undrewN hb1)); obtain ⟨hc1, hf1⟩ := bcell hb1; )) | (go_at_call 29; (fail_if_success (have := w1)); ((with_reducible refine (isDigit_c _ _).mono ?_); rintro e w1 ⟨rfl, hb1⟩; (try (replace hb1 := below_undrew hb1)); (try (replace hb1 := below_undrewN hb1)); obtain ⟨hc1, hf1⟩ := bcell hb1; )) | (go_at_call 45; (fail_if_success (have := w2)); ((with_reducible refine (isLetter_c _ h0 h1 _).mono ?_); rintro e w2 ⟨rfl, hb2⟩; (try (replace hb2 := below_undrew hb2)); (try (replace hb2 := below_undrewN hb2)); obtain ⟨hc2, hf2⟩ := bcell hb2; (try (have hz_1_2 : w1.heap.size < w2.heap.size := (by have := hb2.size; (try simp at this); omega))))) | (go_at_call 29; (fail_if_success (have := w2)); ((with_reducible refine (isDigit_c _ _).mono ?_); rintro e w2 ⟨rfl, hb2⟩; (try (replace hb2 := below_undrew hb2)); (try (replace hb2 := below_undrewN hb2)); obtain ⟨hc2, hf2⟩ := bcell hb2; (try (have hz_1_2 : w1.heap.size < w2.heap.size := (by have := hb2.size; (try simp at this); omega))))) | (go_at_call 45; (fail_if_success (have := w3)); ((with_reducible refine (isLetter_c _ h0 h1 _).mono ?_); rintro e w3 ⟨rfl, hb3⟩; (try (replace hb3 := below_undrew hb3)); (try (replace hb3 := below_undrewN hb3)); obtain ⟨hc3, hf3⟩ := bcell hb3; (try (have hz_1_3 : w1.heap.size < w3.heap.size := (by have := hb3.size; (try simp at this); omega))); (try (have hz_2_3 : w2.heap.size < w3.heap.size := (by have := hb3.size; (try simp at this); omega))))) | (go_at_call 29; (fail_if_success (have := w3)); ((with_reducible refine (isDigit_c _ _).mono ?_); rintro e w3 ⟨rfl, hb3⟩; (try (replace hb3 := below_undrew hb3)); (try (replace hb3 := below_undrewN hb3)); obtain ⟨hc3, hf3⟩ := bcell hb3; (try (have hz_1_3 : w1.heap.size < w3.heap.size := (by have := hb3.size; (try simp at this); omega))); (try (have hz_2_3 : w2.heap.size < w3.heap.size := (by have := hb3.size; (try simp at this); omega))))))
  all_goals go_ret
  all_goals refine ⟨?_, (by repeat (first | (with_reducible exact Below.refl _ _) | (with_reducible refine below_al ?_ _) | (with_reducible refine below_drewN ?_ _) | (with_reducible refine Below.drew ?_) | (with_reducible refine below_via (by assumption) ?_) | (with_reducible refine below_sc ?_ ?_ _; · (first | (simp; done) | (simp; omega) | omega))))⟩
  all_goals simp [*]
end Go.Proofs.YtlaafpbhhnehgaaDoor
end
section
namespace Go.Proofs.YtlaafpbhhnehgaaDoor
set_option linter.unusedVariables false
set_option linter.unusedSimpArgs false
open Go.RowKit
/-- how many bytes from the start are so -/
def runL (p : Int → Bool) : List UInt8 → Nat
  | [] => 0
  | c :: t => if p c.toNat then runL p t + 1 else 0
def BytePred (g : Nat) (p : Int → Bool) : Prop := ∀ (c : Int) (W : World), 0 ≤ c → c ≤ 255 → Calls Tryd.prog g #[.int .u8 c] W fun e w' => e = .returned (.bool (p c)) ∧ Below W.heap.size W w'
def natOf : Value → Nat
  | .int _ n => n.toNat
  | _ => 0
theorem get_lt {s : ByteArray} {c : Nat} (h : c < s.size) : s.data.toList.drop c = s[c] :: s.data.toList.drop (c + 1) := by
  have h' : c < s.data.toList.length := by simpa using h
  rw [List.drop_eq_getElem_cons h']
  rfl
set_option maxRecDepth 100000 in
set_option maxHeartbeats 1000000 in
theorem run_c (g : Nat) (eg : ∀ args w, (callFunc g args).run Tryd.prog w = .ok (.enter g args) w) (p : Int → Bool) (hp : BytePred g p) (s : ByteArray) (w : World) (hs : s.size ≤ 140737488355328) :
    Calls Tryd.prog 72 #[.string s, .func (.func g) #[] #[]] w fun e w' => e = .returned (.int .i64 (runL p s.data.toList)) ∧ Below w.heap.size w w' := by
  go_enter Tryd.func72, Tryd.ntmps72
  go_wp2
  go_loopw [5] (fun v wr => ∃ c : Nat, v = Value.int .i64 c ∧ Below w.heap.size w wr ∧ c ≤ s.size ∧ runL p s.data.toList = c + runL p (s.data.toList.drop c)) (fun v _ => s.size - natOf v)
  case atStart => exact ⟨0, rfl, Below.refl _ _, by omega, by simp⟩
  case round =>
    obtain ⟨c, rfl, HB, hc, hr⟩ := hrel
    by_cases hlt : c < s.size
    · have hx0 := (s[c]).toNat_lt
      have cS := hp (s[c]).toNat wr (by omega) (by omega)
      rw [get_lt hlt, runL] at hr
      cases hpc : p (s[c]).toNat
      · rw [hpc] at cS hr
        simp only [Bool.false_eq_true, if_false] at hr
        go_wp2_with (go_at_fn g; refine cS.mono ?_; rintro e W' ⟨rfl, hb⟩)
        go_ret
        exact ⟨by rw [hr] <;> rfl, HB.trans (hb.mono HB.size)⟩
      · rw [hpc] at cS hr
        simp only [if_true] at hr
        go_wp2_with (go_at_fn g; refine cS.mono ?_; rintro e W' ⟨rfl, hb⟩)
        go_roundw
        case rel => exact ⟨c + 1, by go_num, HB.trans (hb.mono HB.size), by omega, by omega⟩
        case measure => simp [natOf]; omega
    · have hce : c = s.size := by omega
      go_wp2
      go_ret
      exact ⟨by rw [hr, hce, List.drop_of_length_le (by simp)]; simp [runL], HB⟩
end Go.Proofs.YtlaafpbhhnehgaaDoor
end
section
namespace Go.Proofs.YtlaafpbhhnehgaaDoor
set_option linter.unusedVariables false
set_option linter.unusedSimpArgs false
open Go.Lib
/-- each q twice -/
def dbl (q : UInt8) : List UInt8 → List UInt8
  | [] => []
  | c :: t => if c = q then q :: q :: dbl q t else c :: dbl q t
theorem dbl_len (q : UInt8) : ∀ l, (dbl q l).length ≤ 2 * l.length
  | [] => by simp [dbl]
  | c :: t => by
    have := dbl_len q t
    unfold dbl; split <;> simp only [List.length_cons] <;> omega
theorem replaceK_dbl (q : UInt8) : ∀ l, replaceK [q] [q, q] (Lib.count l [q]) l = dbl q l
  | [] => by
    have h : Lib.count [] [q] = 0 := count_miss rfl
    rw [h]; rfl
  | b :: l => by
    have ih := replaceK_dbl q l
    by_cases hb : b = q
    · subst hb
      have hi : index (b :: l) [b] = (0 : Nat) := by simp [index, List.isPrefixOf]
      rw [count_hit (by simp) hi, Nat.add_comm, replaceK_hit _ _ _ _ _ hi]
      simp only [List.take_zero, List.nil_append, dbl, if_true]
      simp only [Nat.zero_add, List.length_cons, List.length_nil, List.drop_succ_cons, List.drop_zero, ih, List.cons_append, List.nil_append]
    · have hp : ([q] : List UInt8).isPrefixOf (b :: l) = false := by simp [List.isPrefixOf]; exact fun h => hb h.symm
      have hi : index (b :: l) [q] = if index l [q] == -1 then -1 else index l [q] + 1 := by rw [index, hp]; simp
      simp only [dbl, if_neg hb]
      by_cases hm : index l [q] = -1
      · rw [hm] at hi
        rw [count_miss hm] at ih
        rw [count_miss hi, ← ih]; rfl
      · have hge := index_ge l [q]
        obtain ⟨j, hj⟩ : ∃ j : Nat, index l [q] = j := ⟨(index l [q]).toNat, by omega⟩
        have hi2 : index (b :: l) [q] = ((j + 1 : Nat) : Int) := by
          rw [hi, hj, if_neg (by simp)]; rfl
        rw [count_hit (by simp) hj, Nat.add_comm, replaceK_hit _ _ _ _ _ hj] at ih
        rw [count_hit (by simp) hi2, Nat.add_comm, replaceK_hit _ _ _ _ _ hi2, ← ih]
        have e : ∀ m, (b :: l).drop (j + 1 + m) = l.drop (j + m) := fun m => by rw [show j + 1 + m = (j + m) + 1 by omega, List.drop_succ_cons]
        rw [e, List.take_succ_cons]; rfl
theorem replaceAll_dbl (q : UInt8) (l : List UInt8) : Lib.replaceAll l [q] [q, q] = dbl q l := by
  have hne : (([q] : List UInt8) == [q, q]) = false := by simp
  rw [replaceAll, replace, hne]
  simp only [Bool.false_eq_true, if_false]
  have : replaceNum l [q] (-1) = Lib.count l [q] := by simp [replaceNum]
  rw [this, replaceK_dbl]
/-- a text between quotes -/
def quoteL (q : UInt8) (l : List UInt8) : List UInt8 := q :: (dbl q l ++ [q])
end Go.Proofs.YtlaafpbhhnehgaaDoor
end
section
namespace Go.Proofs.YtlaafpbhhnehgaaDoor
set_option linter.unusedVariables false
set_option linter.unusedSimpArgs false
open Go.Lib
def sp (c : UInt8) : Bool := c == 9 || c == 10 || c == 13 || c == 32
/-- modes: 0 blanks, 1 in a line's remark, 2 at a remark's second letter, 3 in a remark, 4 at its last letter. What is left, and whether every remark is ended; else what is left from the remark on. -/
def skipL : Nat → List UInt8 → List UInt8 → List UInt8 × Bool
  | m, st, [] => if m = 2 ∨ m = 3 then (st, false) else ([], true)
  | m, st, c :: t =>
    if m = 0 then
      if sp c then skipL 0 [] t
      else if c = 45 ∧ t.head? = some 45 then skipL 1 [] t
      else if c = 47 ∧ t.head? = some 42 then skipL 2 (c :: t) t
      else (c :: t, true)
    else if m = 1 then if c = 10 then skipL 0 [] t else skipL 1 [] t
    else if m = 2 then skipL 3 st t
    else if m = 3 then if c = 42 ∧ t.head? = some 47 then skipL 4 st t else skipL 3 st t
    else skipL 0 [] t
theorem skip_sp (c : UInt8) (t : List UInt8) (h : sp c = true) : skipL 0 [] (c :: t) = skipL 0 [] t := by rw [skipL]; simp [h]
theorem trim_sp (l : List UInt8) : trimLeftS l [9, 10, 13, 32] = l.dropWhile sp := by
  unfold trimLeftS
  congr 1
  funext c
  simp only [List.contains_cons, List.contains_nil, Bool.or_false, sp, Bool.or_assoc]
theorem skip_trim : ∀ l : List UInt8, skipL 0 [] l = skipL 0 [] (l.dropWhile sp)
  | [] => rfl
  | c :: t => by
    by_cases h : sp c = true
    · rw [skip_sp c t h, List.dropWhile_cons_of_pos h]; exact skip_trim t
    · rw [List.dropWhile_cons_of_neg h]
theorem drop_trim (l : List UInt8) : ∃ n, n ≤ l.length ∧ l.dropWhile sp = l.drop n := by
  induction l with
  | nil => exact ⟨0, by simp, rfl⟩
  | cons c t ih =>
    by_cases h : sp c = true
    · obtain ⟨n, hn, e⟩ := ih
      exact ⟨n + 1, by simp; omega, by rw [List.dropWhile_cons_of_pos h, e]; rfl⟩
    · exact ⟨0, by simp, by rw [List.dropWhile_cons_of_neg h]; rfl⟩
theorem trim_head (l : List UInt8) (c : UInt8) (t : List UInt8) (h : l.dropWhile sp = c :: t) : sp c = false := by
  induction l with
  | nil => simp at h
  | cons a r ih =>
    by_cases ha : sp a = true
    · rw [List.dropWhile_cons_of_pos ha] at h; exact ih h
    · rw [List.dropWhile_cons_of_neg ha] at h
      obtain ⟨rfl, rfl⟩ := List.cons.inj h
      simpa using ha
/-- a line's end -/
theorem cut_line : ∀ l : List UInt8, (Lib.cut l [10]).1.length ≤ l.length ∧ skipL 1 [] l = skipL 0 [] (l.drop (Lib.cut l [10]).1.length)
  | [] => by simp [Lib.cut, Lib.index, skipL]
  | c :: t => by
    have ih := cut_line t
    have hge := index_ge t [10]
    by_cases hc : c = 10
    · subst hc
      have hi : index (10 :: t) [10] = 0 := by simp [index, List.isPrefixOf]
      have e : (Lib.cut (10 :: t) [10]).1 = [] := by simp [Lib.cut, hi]
      rw [e]
      refine ⟨by simp, ?_⟩
      rw [List.length_nil, List.drop_zero, skip_sp 10 t (by decide)]
      rw [skipL]; simp
    · have hp : ([10] : List UInt8).isPrefixOf (c :: t) = false := by simp [List.isPrefixOf]; exact fun h => hc h.symm
      have hi : index (c :: t) [10] = if index t [10] == -1 then -1 else index t [10] + 1 := by rw [index, hp]; simp
      have e : (Lib.cut (c :: t) [10]).1 = c :: (Lib.cut t [10]).1 := by
        by_cases hm : index t [10] = -1
        · rw [hm] at hi; simp [Lib.cut, hi, hm]
        · have h1 : 0 ≤ index t [10] := by omega
          have h2 : index (c :: t) [10] = index t [10] + 1 := by rw [hi]; simp [hm]
          simp only [Lib.cut, h2, if_pos h1, if_pos (show 0 ≤ index t [10] + 1 by omega)]
          rw [show (index t [10] + 1).toNat = (index t [10]).toNat + 1 by omega, List.take_succ_cons]
      rw [e, List.length_cons, List.drop_succ_cons]
      refine ⟨by simp; exact ih.1, ?_⟩
      rw [← ih.2, skipL]; simp [hc]
theorem pre2 {a b : UInt8} {l : List UInt8} (h : hasPrefix l [a, b] = true) : ∃ t, l = a :: b :: t := by
  unfold hasPrefix at h
  match l, h with
  | [], h => simp [List.isPrefixOf] at h
  | [x], h => simp [List.isPrefixOf] at h
  | x :: y :: t, h =>
    simp [List.isPrefixOf] at h
    exact ⟨t, by rw [h.1, h.2]⟩
theorem skip_line (l : List UInt8) (h : hasPrefix l [45, 45] = true) : skipL 0 [] l = skipL 0 [] (l.drop (Lib.cut l [10]).1.length) ∧ (Lib.cut l [10]).1.length ≤ l.length ∧ 0 < (Lib.cut l [10]).1.length := by
  obtain ⟨t, rfl⟩ := pre2 h
  obtain ⟨h1, h2⟩ := cut_line (45 :: 45 :: t)
  refine ⟨?_, h1, ?_⟩
  · rw [← h2]
    have e1 : skipL 0 [] (45 :: 45 :: t) = skipL 1 [] (45 :: t) := by rw [skipL]; simp [sp]
    have e2 : skipL 1 [] (45 :: 45 :: t) = skipL 1 [] (45 :: t) := by rw [skipL]; simp
    rw [e1, e2]
  · have hp : ([10] : List UInt8).isPrefixOf (45 :: 45 :: t) = false := by simp [List.isPrefixOf]
    have hi : index (45 :: 45 :: t) [10] = if index (45 :: t) [10] == -1 then -1 else index (45 :: t) [10] + 1 := by rw [index, hp]; simp
    have hge := index_ge (45 :: t) [10]
    unfold Lib.cut
    by_cases hm : index (45 :: t) [10] = -1
    · rw [hm] at hi; rw [hi]; simp
    · have h2 : index (45 :: 45 :: t) [10] = index (45 :: t) [10] + 1 := by rw [hi]; simp [hm]
      rw [h2, if_pos (by omega), show (index (45 :: t) [10] + 1).toNat = (index (45 :: t) [10]).toNat + 1 by omega, List.take_succ_cons]; simp
theorem skip4 (st l : List UInt8) (c : UInt8) : skipL 4 st (c :: l) = skipL 0 [] l := by rw [skipL]; simp
/-- a remark's end -/
theorem skip_rem (st : List UInt8) : ∀ l : List UInt8, (index l [42, 47] = -1 → skipL 3 st l = (st, false)) ∧ (∀ n : Nat, index l [42, 47] = n → skipL 3 st l = skipL 0 [] (l.drop (n + 2)) ∧ n + 2 ≤ l.length)
  | [] => by
    constructor
    · intro _; rw [skipL]; simp
    · intro n h; simp [index] at h
  | c :: t => by
    have ih := skip_rem st t
    have hge := index_ge t [42, 47]
    by_cases hp : ([42, 47] : List UInt8).isPrefixOf (c :: t) = true
    · have hi : index (c :: t) [42, 47] = 0 := by rw [index, hp]; simp
      obtain ⟨u, hu⟩ := pre2 (l := c :: t) hp
      obtain ⟨rfl, rfl⟩ := List.cons.inj hu
      rw [hi]
      refine ⟨fun h => by omega, fun n h => ?_⟩
      obtain rfl : n = 0 := by omega
      refine ⟨?_, by simp⟩
      rw [skipL]; simp [skip4]
    · have hp' : ([42, 47] : List UInt8).isPrefixOf (c :: t) = false := Bool.eq_false_iff.2 hp
      have hi : index (c :: t) [42, 47] = if index t [42, 47] == -1 then -1 else index t [42, 47] + 1 := by rw [index, hp']; simp
      have hs : skipL 3 st (c :: t) = skipL 3 st t := by
        have : ¬ (c = 42 ∧ t.head? = some 47) := by
          rintro ⟨rfl, h⟩
          match t, h with
          | x :: t', h => simp at h; subst h; simp [List.isPrefixOf] at hp'
        rw [skipL]; simp only [if_neg this]; simp
      rw [hs]
      by_cases hm : index t [42, 47] = -1
      · rw [hm] at hi
        refine ⟨fun _ => ih.1 hm, fun n h => ?_⟩
        rw [hi] at h; simp at h
      · have h2 : index (c :: t) [42, 47] = index t [42, 47] + 1 := by rw [hi]; simp [hm]
        rw [h2]
        refine ⟨fun h => by omega, fun n h => ?_⟩
        obtain ⟨m, rfl⟩ : ∃ m, n = m + 1 := ⟨n - 1, by omega⟩
        have := ih.2 m (by omega)
        refine ⟨?_, by simp; omega⟩
        rw [this.1, show m + 1 + 2 = (m + 2) + 1 by omega, List.drop_succ_cons]
theorem skip_rem2 (l : List UInt8) (h : hasPrefix l [47, 42] = true) :
    (index (l.drop 2) [42, 47] = -1 → skipL 0 [] l = (l, false)) ∧ (∀ n : Nat, index (l.drop 2) [42, 47] = n → skipL 0 [] l = skipL 0 [] (l.drop (n + 4)) ∧ n + 4 ≤ l.length) := by
  obtain ⟨t, rfl⟩ := pre2 h
  have e : skipL 0 [] (47 :: 42 :: t) = skipL 3 (47 :: 42 :: t) t := by
    rw [skipL]; simp [sp]
    rw [skipL]; simp
  rw [e]
  have hr := skip_rem (47 :: 42 :: t) t
  refine ⟨hr.1, fun n hn => ?_⟩
  have := hr.2 n hn
  refine ⟨?_, by simp; omega⟩
  rw [this.1, show n + 4 = (n + 2) + 2 by omega]
  simp only [List.drop_succ_cons]
theorem skip_end (l : List UInt8) (hs : ∀ c t, l = c :: t → sp c = false) (h1 : hasPrefix l [45, 45] = false) (h2 : hasPrefix l [47, 42] = false) : skipL 0 [] l = (l, true) := by
  match l with
  | [] => rfl
  | c :: t =>
    have hc := hs c t rfl
    have n1 : ¬ (c = 45 ∧ t.head? = some 45) := by
      rintro ⟨rfl, h⟩
      match t, h with
      | x :: t', h => simp at h; subst h; simp [hasPrefix, List.isPrefixOf] at h1
    have n2 : ¬ (c = 47 ∧ t.head? = some 42) := by
      rintro ⟨rfl, h⟩
      match t, h with
      | x :: t', h => simp at h; subst h; simp [hasPrefix, List.isPrefixOf] at h2
    rw [skipL]; simp [hc, n1, n2]
end Go.Proofs.YtlaafpbhhnehgaaDoor
end
section
namespace Go.Proofs
open Go.Shelf
def Tryd.lays169_ren : Go.Shelf.Ren := ⟨fun | 169 => 58 | n => n, fun | 70 => 73 | 9 => 9 | 0 => 0 | 72 => 76 | 37 => 74 | 127 => 95 | 3 => 3 | 5 => 5 | n => n, fun | n => n⟩
theorem Tryd.lays169 : Go.Proofs.Lays.n169 Tryd.prog Tryd.lays169_ren := {
  mixed := by kernel_rfl
  f169 := Tryd.func58.trans (congrArg some (by kernel_rfl))
  t0 := Tryd.underlying0
  a0 := Tryd.isAgg0
  z0 := Tryd.sizeOf0
  v0 := Tryd.zeroValue0
  t3 := Tryd.underlying3
  a3 := Tryd.isAgg3
  z3 := Tryd.sizeOf3
  v3 := Tryd.zeroValue3
  t9 := Tryd.underlying9
  a9 := Tryd.isAgg9
  z9 := Tryd.sizeOf9
  v9 := Tryd.zeroValue9
  t37 := Tryd.underlying74
  a37 := Tryd.isAgg74
  z37 := Tryd.sizeOf74
  v37 := Tryd.zeroValue74
  t70 := Tryd.underlying73
  a70 := Tryd.isAgg73
  z70 := Tryd.sizeOf73
  v70 := Tryd.zeroValue73
  t72 := Tryd.underlying76
  a72 := Tryd.isAgg76
  z72 := Tryd.sizeOf76
  v72 := Tryd.zeroValue76
  t127 := Tryd.underlying95
  a127 := Tryd.isAgg95
  z127 := Tryd.sizeOf95
  v127 := Tryd.zeroValue95 }
theorem Tryd.Builder_Extra_169 : Builder.Extra Tryd.prog Tryd.lays169_ren := {
  sizeBuilder := by kernel_rfl
  liesBuilder := by kernel_rfl
  t5 := Tryd.underlying5
  a5 := Tryd.isAgg5
  z5 := Tryd.sizeOf5
  v5 := Tryd.zeroValue5
  infoByte := by kernel_rfl
  cellsByte := by kernel_rfl
  sizeByte := by kernel_rfl
  neB5 := by decide }
open Go.RowKit in
/-- (*strings.Builder).String: "String returns the accumulated string.": WHATEVER THE BUILDER HOLDS. (LAID: no walk: one application.) -/
theorem Tryd.Builder_String_any (B b : Nat) (l : List UInt8) (w : World) (h : Lib.IsBuilder 76 5 B b (Lib.byteCells l) w) (hBw : B ≤ w.heap.size) :
    Calls Tryd.prog 58 #[.pointer (some ⟨b, 0, none⟩)] w fun e w' => e = .returned (.string ⟨l.toArray⟩) ∧ Below B w w' := Any.Builder_String_any Tryd.lays169 Tryd.Builder_Extra_169 B b l w h hBw
def Tryd.lays158_ren : Go.Shelf.Ren := ⟨fun | 158 => 31 | 165 => 55 | 166 => 56 | 167 => 57 | 169 => 58 | 230 => 59 | 203 => 60 | 240 => 75 | 241 => 76 | 197 => 77 | 118 => 78 | 168 => 79 | 270 => 80 | 262 => 81 | 276 => 93 | 277 => 94 | 260 => 95 | 242 => 96 | 313 => 97 | 278 => 102 | 274 => 103 | 275 => 104 | n => n, fun | 9 => 9 | 4 => 4 | 3 => 3 | 5 => 5 | 72 => 76 | 0 => 0 | 76 => 80 | 75 => 79 | 107 => 84 | 70 => 73 | 20 => 20 | 37 => 74 | 127 => 95 | 21 => 21 | 105 => 96 | 164 => 107 | 162 => 113 | 203 => 111 | 119 => 103 | 46 => 86 | 139 => 125 | 138 => 124 | 51 => 117 | 160 => 126 | 208 => 144 | 206 => 142 | 80 => 43 | n => n, fun | 13 => 2 | 3 => 4 | 4 => 5 | n => n⟩
theorem Tryd.lays158 : Go.Proofs.Lays.n158 Tryd.prog Tryd.lays158_ren := {
  mixed := by kernel_rfl
  f118 := Tryd.func78.trans (congrArg some (by kernel_rfl))
  f158 := Tryd.func31.trans (congrArg some (by kernel_rfl))
  f165 := Tryd.func55.trans (congrArg some (by kernel_rfl))
  f166 := Tryd.func56.trans (congrArg some (by kernel_rfl))
  f167 := Tryd.func57.trans (congrArg some (by kernel_rfl))
  f168 := Tryd.func79.trans (congrArg some (by kernel_rfl))
  f169 := Tryd.func58.trans (congrArg some (by kernel_rfl))
  f197 := Tryd.func77.trans (congrArg some (by kernel_rfl))
  f203 := Tryd.func60.trans (congrArg some (by kernel_rfl))
  f230 := Tryd.func59.trans (congrArg some (by kernel_rfl))
  f240 := Tryd.func75.trans (congrArg some (by kernel_rfl))
  f241 := Tryd.func76.trans (congrArg some (by kernel_rfl))
  f242 := Tryd.func96.trans (congrArg some (by kernel_rfl))
  f260 := Tryd.func95.trans (congrArg some (by kernel_rfl))
  f262 := Tryd.func81.trans (congrArg some (by kernel_rfl))
  f270 := Tryd.func80.trans (congrArg some (by kernel_rfl))
  f274 := Tryd.func103.trans (congrArg some (by kernel_rfl))
  f275 := Tryd.func104.trans (congrArg some (by kernel_rfl))
  f276 := Tryd.func93.trans (congrArg some (by kernel_rfl))
  f277 := Tryd.func94.trans (congrArg some (by kernel_rfl))
  f278 := Tryd.func102.trans (congrArg some (by kernel_rfl))
  f313 := Tryd.func97.trans (congrArg some (by kernel_rfl))
  t0 := Tryd.underlying0
  a0 := Tryd.isAgg0
  z0 := Tryd.sizeOf0
  v0 := Tryd.zeroValue0
  t3 := Tryd.underlying3
  a3 := Tryd.isAgg3
  z3 := Tryd.sizeOf3
  v3 := Tryd.zeroValue3
  t4 := Tryd.underlying4
  a4 := Tryd.isAgg4
  z4 := Tryd.sizeOf4
  v4 := Tryd.zeroValue4
  t5 := Tryd.underlying5
  a5 := Tryd.isAgg5
  z5 := Tryd.sizeOf5
  v5 := Tryd.zeroValue5
  t9 := Tryd.underlying9
  a9 := Tryd.isAgg9
  z9 := Tryd.sizeOf9
  v9 := Tryd.zeroValue9
  t20 := Tryd.underlying20
  a20 := Tryd.isAgg20
  z20 := Tryd.sizeOf20
  v20 := Tryd.zeroValue20
  t21 := Tryd.underlying21
  a21 := Tryd.isAgg21
  z21 := Tryd.sizeOf21
  v21 := Tryd.zeroValue21
  t37 := Tryd.underlying74
  a37 := Tryd.isAgg74
  z37 := Tryd.sizeOf74
  v37 := Tryd.zeroValue74
  t46 := Tryd.underlying86
  a46 := Tryd.isAgg86
  z46 := Tryd.sizeOf86
  v46 := Tryd.zeroValue86
  t51 := Tryd.underlying117
  a51 := Tryd.isAgg117
  z51 := Tryd.sizeOf117
  v51 := Tryd.zeroValue117
  t70 := Tryd.underlying73
  a70 := Tryd.isAgg73
  z70 := Tryd.sizeOf73
  v70 := Tryd.zeroValue73
  t72 := Tryd.underlying76
  a72 := Tryd.isAgg76
  z72 := Tryd.sizeOf76
  v72 := Tryd.zeroValue76
  t75 := Tryd.underlying79
  a75 := Tryd.isAgg79
  z75 := Tryd.sizeOf79
  v75 := Tryd.zeroValue79
  t76 := Tryd.underlying80
  a76 := Tryd.isAgg80
  z76 := Tryd.sizeOf80
  v76 := Tryd.zeroValue80
  t105 := Tryd.underlying96
  a105 := Tryd.isAgg96
  z105 := Tryd.sizeOf96
  v105 := Tryd.zeroValue96
  t107 := Tryd.underlying84
  a107 := Tryd.isAgg84
  z107 := Tryd.sizeOf84
  v107 := Tryd.zeroValue84
  t119 := Tryd.underlying103
  a119 := Tryd.isAgg103
  z119 := Tryd.sizeOf103
  t127 := Tryd.underlying95
  a127 := Tryd.isAgg95
  z127 := Tryd.sizeOf95
  v127 := Tryd.zeroValue95
  t138 := Tryd.underlying124
  a138 := Tryd.isAgg124
  z138 := Tryd.sizeOf124
  v138 := Tryd.zeroValue124
  t139 := Tryd.underlying125
  a139 := Tryd.isAgg125
  z139 := Tryd.sizeOf125
  v139 := Tryd.zeroValue125
  t160 := Tryd.underlying126
  a160 := Tryd.isAgg126
  z160 := Tryd.sizeOf126
  v160 := Tryd.zeroValue126
  t162 := Tryd.underlying113
  a162 := Tryd.isAgg113
  z162 := Tryd.sizeOf113
  v162 := Tryd.zeroValue113
  t164 := Tryd.underlying107
  a164 := Tryd.isAgg107
  z164 := Tryd.sizeOf107
  v164 := Tryd.zeroValue107
  t203 := Tryd.underlying111
  a203 := Tryd.isAgg111
  z203 := Tryd.sizeOf111
  v203 := Tryd.zeroValue111
  t206 := Tryd.underlying142
  a206 := Tryd.isAgg142
  z206 := Tryd.sizeOf142
  v206 := Tryd.zeroValue142
  t208 := Tryd.underlying144
  a208 := Tryd.isAgg144
  z208 := Tryd.sizeOf144
  v208 := Tryd.zeroValue144
  g3 := by kernel_rfl
  g4 := by kernel_rfl
  g13 := by kernel_rfl }
theorem Tryd.Builder_Extra_158 : Builder.Extra Tryd.prog Tryd.lays158_ren := {
  sizeBuilder := by kernel_rfl
  liesBuilder := by kernel_rfl
  t5 := Tryd.underlying5
  a5 := Tryd.isAgg5
  z5 := Tryd.sizeOf5
  v5 := Tryd.zeroValue5
  infoByte := by kernel_rfl
  cellsByte := by kernel_rfl
  sizeByte := by kernel_rfl
  neB5 := by decide }
open Go.RowKit in
/-- strings.ToUpper: "ToUpper returns s with all Unicode letters mapped to their upper case.": ON ASCII TEXT OF AT MOST 2^47 BYTES. Below the heap's end the world is as it was: where a letter turns, the call makes a builder and its buffer. (LAID: no walk: one application.) -/
theorem Tryd.strings_ToUpper_ascii (s : ByteArray) (w : World) (hs : s.size ≤ 140737488355328) (hascii : ∀ (j : Nat) (b : UInt8), s.data.toList[j]? = some b → b.toNat < 128) :
    Calls Tryd.prog 31 #[.string s] w fun e w' => e = .returned (.string ⟨(Lib.toUpperA s.data.toList).toArray⟩) ∧ Below w.heap.size w w' := Any.strings_ToUpper_ascii Tryd.lays158 Tryd.Builder_Extra_158 s w hs hascii
def Tryd.lays159_ren : Go.Shelf.Ren := ⟨fun | 159 => 73 | 165 => 55 | 166 => 56 | 167 => 57 | 169 => 58 | 230 => 59 | 204 => 91 | 240 => 75 | 241 => 76 | 197 => 77 | 118 => 78 | 168 => 79 | 270 => 80 | 262 => 81 | 276 => 93 | 277 => 94 | 260 => 95 | 242 => 96 | 313 => 97 | 278 => 102 | 274 => 103 | 275 => 104 | n => n, fun | 9 => 9 | 4 => 4 | 3 => 3 | 5 => 5 | 72 => 76 | 0 => 0 | 76 => 80 | 75 => 79 | 107 => 84 | 70 => 73 | 20 => 20 | 37 => 74 | 127 => 95 | 21 => 21 | 105 => 96 | 164 => 107 | 162 => 113 | 203 => 111 | 119 => 103 | 46 => 86 | 139 => 125 | 138 => 124 | 51 => 117 | 160 => 126 | 208 => 144 | 206 => 142 | 80 => 43 | n => n, fun | 13 => 2 | 3 => 4 | 4 => 5 | n => n⟩
theorem Tryd.lays159 : Go.Proofs.Lays.n159 Tryd.prog Tryd.lays159_ren := {
  mixed := by kernel_rfl
  f118 := Tryd.func78.trans (congrArg some (by kernel_rfl))
  f159 := Tryd.func73.trans (congrArg some (by kernel_rfl))
  f165 := Tryd.func55.trans (congrArg some (by kernel_rfl))
  f166 := Tryd.func56.trans (congrArg some (by kernel_rfl))
  f167 := Tryd.func57.trans (congrArg some (by kernel_rfl))
  f168 := Tryd.func79.trans (congrArg some (by kernel_rfl))
  f169 := Tryd.func58.trans (congrArg some (by kernel_rfl))
  f197 := Tryd.func77.trans (congrArg some (by kernel_rfl))
  f204 := Tryd.func91.trans (congrArg some (by kernel_rfl))
  f230 := Tryd.func59.trans (congrArg some (by kernel_rfl))
  f240 := Tryd.func75.trans (congrArg some (by kernel_rfl))
  f241 := Tryd.func76.trans (congrArg some (by kernel_rfl))
  f242 := Tryd.func96.trans (congrArg some (by kernel_rfl))
  f260 := Tryd.func95.trans (congrArg some (by kernel_rfl))
  f262 := Tryd.func81.trans (congrArg some (by kernel_rfl))
  f270 := Tryd.func80.trans (congrArg some (by kernel_rfl))
  f274 := Tryd.func103.trans (congrArg some (by kernel_rfl))
  f275 := Tryd.func104.trans (congrArg some (by kernel_rfl))
  f276 := Tryd.func93.trans (congrArg some (by kernel_rfl))
  f277 := Tryd.func94.trans (congrArg some (by kernel_rfl))
  f278 := Tryd.func102.trans (congrArg some (by kernel_rfl))
  f313 := Tryd.func97.trans (congrArg some (by kernel_rfl))
  t0 := Tryd.underlying0
  a0 := Tryd.isAgg0
  z0 := Tryd.sizeOf0
  v0 := Tryd.zeroValue0
  t3 := Tryd.underlying3
  a3 := Tryd.isAgg3
  z3 := Tryd.sizeOf3
  v3 := Tryd.zeroValue3
  t4 := Tryd.underlying4
  a4 := Tryd.isAgg4
  z4 := Tryd.sizeOf4
  v4 := Tryd.zeroValue4
  t5 := Tryd.underlying5
  a5 := Tryd.isAgg5
  z5 := Tryd.sizeOf5
  v5 := Tryd.zeroValue5
  t9 := Tryd.underlying9
  a9 := Tryd.isAgg9
  z9 := Tryd.sizeOf9
  v9 := Tryd.zeroValue9
  t20 := Tryd.underlying20
  a20 := Tryd.isAgg20
  z20 := Tryd.sizeOf20
  v20 := Tryd.zeroValue20
  t21 := Tryd.underlying21
  a21 := Tryd.isAgg21
  z21 := Tryd.sizeOf21
  v21 := Tryd.zeroValue21
  t37 := Tryd.underlying74
  a37 := Tryd.isAgg74
  z37 := Tryd.sizeOf74
  v37 := Tryd.zeroValue74
  t46 := Tryd.underlying86
  a46 := Tryd.isAgg86
  z46 := Tryd.sizeOf86
  v46 := Tryd.zeroValue86
  t51 := Tryd.underlying117
  a51 := Tryd.isAgg117
  z51 := Tryd.sizeOf117
  v51 := Tryd.zeroValue117
  t70 := Tryd.underlying73
  a70 := Tryd.isAgg73
  z70 := Tryd.sizeOf73
  v70 := Tryd.zeroValue73
  t72 := Tryd.underlying76
  a72 := Tryd.isAgg76
  z72 := Tryd.sizeOf76
  v72 := Tryd.zeroValue76
  t75 := Tryd.underlying79
  a75 := Tryd.isAgg79
  z75 := Tryd.sizeOf79
  v75 := Tryd.zeroValue79
  t76 := Tryd.underlying80
  a76 := Tryd.isAgg80
  z76 := Tryd.sizeOf80
  v76 := Tryd.zeroValue80
  t105 := Tryd.underlying96
  a105 := Tryd.isAgg96
  z105 := Tryd.sizeOf96
  v105 := Tryd.zeroValue96
  t107 := Tryd.underlying84
  a107 := Tryd.isAgg84
  z107 := Tryd.sizeOf84
  v107 := Tryd.zeroValue84
  t119 := Tryd.underlying103
  a119 := Tryd.isAgg103
  z119 := Tryd.sizeOf103
  t127 := Tryd.underlying95
  a127 := Tryd.isAgg95
  z127 := Tryd.sizeOf95
  v127 := Tryd.zeroValue95
  t138 := Tryd.underlying124
  a138 := Tryd.isAgg124
  z138 := Tryd.sizeOf124
  v138 := Tryd.zeroValue124
  t139 := Tryd.underlying125
  a139 := Tryd.isAgg125
  z139 := Tryd.sizeOf125
  v139 := Tryd.zeroValue125
  t160 := Tryd.underlying126
  a160 := Tryd.isAgg126
  z160 := Tryd.sizeOf126
  v160 := Tryd.zeroValue126
  t162 := Tryd.underlying113
  a162 := Tryd.isAgg113
  z162 := Tryd.sizeOf113
  v162 := Tryd.zeroValue113
  t164 := Tryd.underlying107
  a164 := Tryd.isAgg107
  z164 := Tryd.sizeOf107
  v164 := Tryd.zeroValue107
  t203 := Tryd.underlying111
  a203 := Tryd.isAgg111
  z203 := Tryd.sizeOf111
  v203 := Tryd.zeroValue111
  t206 := Tryd.underlying142
  a206 := Tryd.isAgg142
  z206 := Tryd.sizeOf142
  v206 := Tryd.zeroValue142
  t208 := Tryd.underlying144
  a208 := Tryd.isAgg144
  z208 := Tryd.sizeOf144
  v208 := Tryd.zeroValue144
  g3 := by kernel_rfl
  g4 := by kernel_rfl
  g13 := by kernel_rfl }
theorem Tryd.Builder_Extra_159 : Builder.Extra Tryd.prog Tryd.lays159_ren := {
  sizeBuilder := by kernel_rfl
  liesBuilder := by kernel_rfl
  t5 := Tryd.underlying5
  a5 := Tryd.isAgg5
  z5 := Tryd.sizeOf5
  v5 := Tryd.zeroValue5
  infoByte := by kernel_rfl
  cellsByte := by kernel_rfl
  sizeByte := by kernel_rfl
  neB5 := by decide }
open Go.RowKit in
/-- strings.ToLower: "ToLower returns s with all Unicode letters mapped to their lower case.": ON ASCII TEXT OF AT MOST 2^47 BYTES. Below the heap's end the world is as it was: where a letter turns, the call makes a builder and its buffer. (LAID: no walk: one application.) -/
theorem Tryd.strings_ToLower_ascii (s : ByteArray) (w : World) (hs : s.size ≤ 140737488355328) (hascii : ∀ (j : Nat) (b : UInt8), s.data.toList[j]? = some b → b.toNat < 128) :
    Calls Tryd.prog 73 #[.string s] w fun e w' => e = .returned (.string ⟨(Lib.toLowerA s.data.toList).toArray⟩) ∧ Below w.heap.size w w' := Any.strings_ToLower_ascii Tryd.lays159 Tryd.Builder_Extra_159 s w hs hascii
def Tryd.lays156_ren : Go.Shelf.Ren := ⟨fun | 156 => 40 | 165 => 55 | 166 => 56 | 169 => 58 | 240 => 75 | 241 => 76 | 276 => 93 | 277 => 94 | n => n, fun | 31 => 58 | 9 => 9 | 3 => 3 | 4 => 4 | 0 => 0 | 20 => 20 | 72 => 76 | 76 => 80 | 70 => 73 | 37 => 74 | 75 => 79 | 127 => 95 | 164 => 107 | 5 => 5 | 80 => 43 | n => n, fun | n => n⟩
theorem Tryd.lays156 : Go.Proofs.Lays.n156 Tryd.prog Tryd.lays156_ren := {
  mixed := by kernel_rfl
  f156 := Tryd.func40.trans (congrArg some (by kernel_rfl))
  f165 := Tryd.func55.trans (congrArg some (by kernel_rfl))
  f166 := Tryd.func56.trans (congrArg some (by kernel_rfl))
  f169 := Tryd.func58.trans (congrArg some (by kernel_rfl))
  f240 := Tryd.func75.trans (congrArg some (by kernel_rfl))
  f241 := Tryd.func76.trans (congrArg some (by kernel_rfl))
  f276 := Tryd.func93.trans (congrArg some (by kernel_rfl))
  f277 := Tryd.func94.trans (congrArg some (by kernel_rfl))
  t0 := Tryd.underlying0
  a0 := Tryd.isAgg0
  z0 := Tryd.sizeOf0
  v0 := Tryd.zeroValue0
  t3 := Tryd.underlying3
  a3 := Tryd.isAgg3
  z3 := Tryd.sizeOf3
  v3 := Tryd.zeroValue3
  t4 := Tryd.underlying4
  a4 := Tryd.isAgg4
  z4 := Tryd.sizeOf4
  v4 := Tryd.zeroValue4
  t9 := Tryd.underlying9
  a9 := Tryd.isAgg9
  z9 := Tryd.sizeOf9
  v9 := Tryd.zeroValue9
  t20 := Tryd.underlying20
  a20 := Tryd.isAgg20
  z20 := Tryd.sizeOf20
  v20 := Tryd.zeroValue20
  t31 := Tryd.underlying58
  a31 := Tryd.isAgg58
  z31 := Tryd.sizeOf58
  v31 := Tryd.zeroValue58
  t37 := Tryd.underlying74
  a37 := Tryd.isAgg74
  z37 := Tryd.sizeOf74
  v37 := Tryd.zeroValue74
  t70 := Tryd.underlying73
  a70 := Tryd.isAgg73
  z70 := Tryd.sizeOf73
  v70 := Tryd.zeroValue73
  t72 := Tryd.underlying76
  a72 := Tryd.isAgg76
  z72 := Tryd.sizeOf76
  v72 := Tryd.zeroValue76
  t75 := Tryd.underlying79
  a75 := Tryd.isAgg79
  z75 := Tryd.sizeOf79
  v75 := Tryd.zeroValue79
  t76 := Tryd.underlying80
  a76 := Tryd.isAgg80
  z76 := Tryd.sizeOf80
  v76 := Tryd.zeroValue80
  t127 := Tryd.underlying95
  a127 := Tryd.isAgg95
  z127 := Tryd.sizeOf95
  v127 := Tryd.zeroValue95
  t164 := Tryd.underlying107
  a164 := Tryd.isAgg107
  z164 := Tryd.sizeOf107
  v164 := Tryd.zeroValue107 }
theorem Tryd.Builder_Extra_156 : Builder.Extra Tryd.prog Tryd.lays156_ren := {
  sizeBuilder := by kernel_rfl
  liesBuilder := by kernel_rfl
  t5 := Tryd.underlying5
  a5 := Tryd.isAgg5
  z5 := Tryd.sizeOf5
  v5 := Tryd.zeroValue5
  infoByte := by kernel_rfl
  cellsByte := by kernel_rfl
  sizeByte := by kernel_rfl
  neB5 := by decide }
open Go.RowKit in
/-- No element: the empty string; the world is as it was. (Whatever the slice's address and capacity: a nil slice too.) (LAID: no walk: one application.) -/
theorem Tryd.strings_Join_none (a : Option Addr) (c : Nat) (sep : ByteArray) (w : World) :
    Calls Tryd.prog 40 #[.slice a 0 c, .string sep] w fun e w' => e = .returned (.string ⟨#[]⟩) ∧ w' = w := Any.strings_Join_none Tryd.lays156 Tryd.Builder_Extra_156 a c sep w
open Go.RowKit in
/-- strings.Join: "Join concatenates the elements of its first argument to create a single string. The separator string sep is placed between elements in the resulting string.": HOWEVER MANY ELEMENTS. Below the heap's end the world is as it was. (LAID: no walk: one application.) -/
theorem Tryd.strings_Join (bk o c : Nat) (xs : List ByteArray) (sep : ByteArray) (w : World) (hcells : ∀ (j : Nat) x, xs[j]? = some x → w.cell? ⟨bk, o + j, none⟩ = some (.string x)) (hbk : bk < w.heap.size) (hN : xs.length ≤ 140737488355328) (hcap : xs.length ≤ c) (hlen : (Lib.join (xs.map (·.data.toList)) sep.data.toList).length ≤ 140737488355328) :
    Calls Tryd.prog 40 #[.slice (some ⟨bk, o, none⟩) xs.length c, .string sep] w fun e w' => e = .returned (.string ⟨(Lib.join (xs.map (·.data.toList)) sep.data.toList).toArray⟩) ∧ Below w.heap.size w w' := Any.strings_Join Tryd.lays156 Tryd.Builder_Extra_156 bk o c xs sep w hcells hbk hN hcap hlen
def Tryd.lays161_ren : Go.Shelf.Ren := ⟨fun | 161 => 41 | 231 => 65 | 227 => 66 | 233 => 67 | 235 => 68 | 228 => 86 | 197 => 77 | 151 => 87 | 260 => 95 | 152 => 100 | 137 => 49 | 119 => 109 | 224 => 89 | 225 => 88 | 217 => 74 | 266 => 92 | n => n, fun | 9 => 9 | 4 => 4 | 3 => 3 | 5 => 5 | 117 => 90 | 116 => 89 | 0 => 0 | 124 => 93 | 105 => 96 | 21 => 21 | 119 => 103 | 46 => 86 | 139 => 125 | 138 => 124 | n => n, fun | 3 => 4 | 4 => 5 | n => n⟩
theorem Tryd.lays161 : Go.Proofs.Lays.n161 Tryd.prog Tryd.lays161_ren := {
  mixed := by kernel_rfl
  f119 := Tryd.func109.trans (congrArg some (by kernel_rfl))
  f137 := Tryd.func49.trans (congrArg some (by kernel_rfl))
  f151 := Tryd.func87.trans (congrArg some (by kernel_rfl))
  f152 := Tryd.func100.trans (congrArg some (by kernel_rfl))
  f161 := Tryd.func41.trans (congrArg some (by kernel_rfl))
  f197 := Tryd.func77.trans (congrArg some (by kernel_rfl))
  f217 := Tryd.func74.trans (congrArg some (by kernel_rfl))
  f224 := Tryd.func89.trans (congrArg some (by kernel_rfl))
  f225 := Tryd.func88.trans (congrArg some (by kernel_rfl))
  f227 := Tryd.func66.trans (congrArg some (by kernel_rfl))
  f228 := Tryd.func86.trans (congrArg some (by kernel_rfl))
  f231 := Tryd.func65.trans (congrArg some (by kernel_rfl))
  f233 := Tryd.func67.trans (congrArg some (by kernel_rfl))
  f235 := Tryd.func68.trans (congrArg some (by kernel_rfl))
  f260 := Tryd.func95.trans (congrArg some (by kernel_rfl))
  f266 := Tryd.func92.trans (congrArg some (by kernel_rfl))
  t0 := Tryd.underlying0
  a0 := Tryd.isAgg0
  z0 := Tryd.sizeOf0
  v0 := Tryd.zeroValue0
  t3 := Tryd.underlying3
  a3 := Tryd.isAgg3
  z3 := Tryd.sizeOf3
  v3 := Tryd.zeroValue3
  t4 := Tryd.underlying4
  a4 := Tryd.isAgg4
  z4 := Tryd.sizeOf4
  v4 := Tryd.zeroValue4
  t5 := Tryd.underlying5
  a5 := Tryd.isAgg5
  z5 := Tryd.sizeOf5
  v5 := Tryd.zeroValue5
  t9 := Tryd.underlying9
  a9 := Tryd.isAgg9
  z9 := Tryd.sizeOf9
  v9 := Tryd.zeroValue9
  t21 := Tryd.underlying21
  a21 := Tryd.isAgg21
  z21 := Tryd.sizeOf21
  v21 := Tryd.zeroValue21
  t46 := Tryd.underlying86
  a46 := Tryd.isAgg86
  z46 := Tryd.sizeOf86
  v46 := Tryd.zeroValue86
  t105 := Tryd.underlying96
  a105 := Tryd.isAgg96
  z105 := Tryd.sizeOf96
  v105 := Tryd.zeroValue96
  t116 := Tryd.underlying89
  a116 := Tryd.isAgg89
  z116 := Tryd.sizeOf89
  t117 := Tryd.underlying90
  a117 := Tryd.isAgg90
  z117 := Tryd.sizeOf90
  v117 := Tryd.zeroValue90
  t119 := Tryd.underlying103
  a119 := Tryd.isAgg103
  z119 := Tryd.sizeOf103
  t124 := Tryd.underlying93
  a124 := Tryd.isAgg93
  z124 := Tryd.sizeOf93
  v124 := Tryd.zeroValue93
  t138 := Tryd.underlying124
  a138 := Tryd.isAgg124
  z138 := Tryd.sizeOf124
  v138 := Tryd.zeroValue124
  t139 := Tryd.underlying125
  a139 := Tryd.isAgg125
  z139 := Tryd.sizeOf125
  v139 := Tryd.zeroValue125
  g3 := by kernel_rfl
  g4 := by kernel_rfl }
open Go.RowKit in
/-- strings.TrimLeft: "TrimLeft returns a slice of the string s with all leading Unicode code points contained in cutset removed.": AT A cutset OF ONE ASCII BYTE. The world is as it was. (LAID: no walk: one application.) -/
theorem Tryd.strings_TrimLeft_one (s : ByteArray) (c : UInt8) (hc : c.toNat < 128) (w : World) :
    Calls Tryd.prog 41 #[.string s, .string ⟨#[c]⟩] w fun e w' => e = .returned (.string ⟨(Lib.trimLeftB s.data.toList c).toArray⟩) ∧ w' = w := Any.strings_TrimLeft_one Tryd.lays161 s c hc w
def Tryd.lays137_ren : Go.Shelf.Ren := ⟨fun | 137 => 49 | 217 => 74 | 266 => 92 | n => n, fun | 9 => 9 | 5 => 5 | 3 => 3 | n => n, fun | n => n⟩
theorem Tryd.lays137 : Go.Proofs.Lays.n137 Tryd.prog Tryd.lays137_ren := {
  mixed := by kernel_rfl
  f137 := Tryd.func49.trans (congrArg some (by kernel_rfl))
  f217 := Tryd.func74.trans (congrArg some (by kernel_rfl))
  f266 := Tryd.func92.trans (congrArg some (by kernel_rfl))
  t3 := Tryd.underlying3
  a3 := Tryd.isAgg3
  z3 := Tryd.sizeOf3
  v3 := Tryd.zeroValue3
  t5 := Tryd.underlying5
  a5 := Tryd.isAgg5
  z5 := Tryd.sizeOf5
  v5 := Tryd.zeroValue5
  t9 := Tryd.underlying9
  a9 := Tryd.isAgg9
  z9 := Tryd.sizeOf9
  v9 := Tryd.zeroValue9 }
open Go.RowKit in
/-- strings.IndexByte: "IndexByte returns the index of the first instance of c in s, or -1 if c is not present in s.": IT RETURNS 'Lib.indexByte s c'; the world is as it was. (LAID: no walk: one application.) -/
theorem Tryd.strings_IndexByte (s : ByteArray) (c : Int) (w : World) :
    Calls Tryd.prog 49 #[.string s, .int .u8 c] w fun e w' => e = .returned (.int .i64 (Lib.indexByte s.data.toList c.toNat.toUInt8)) ∧ w' = w := Any.strings_IndexByte Tryd.lays137 s c w
def Tryd.lays143_ren : Go.Shelf.Ren := ⟨fun | 143 => 44 | 219 => 71 | 217 => 74 | 225 => 88 | 224 => 89 | 267 => 90 | 266 => 92 | 314 => 101 | n => n, fun | 9 => 9 | 3 => 3 | 4 => 4 | 5 => 5 | 46 => 86 | 146 => 121 | 51 => 117 | n => n, fun | 1 => 1 | n => n⟩
theorem Tryd.lays143 : Go.Proofs.Lays.n143 Tryd.prog Tryd.lays143_ren := {
  mixed := by kernel_rfl
  f143 := Tryd.func44.trans (congrArg some (by kernel_rfl))
  f217 := Tryd.func74.trans (congrArg some (by kernel_rfl))
  f219 := Tryd.func71.trans (congrArg some (by kernel_rfl))
  f224 := Tryd.func89.trans (congrArg some (by kernel_rfl))
  f225 := Tryd.func88.trans (congrArg some (by kernel_rfl))
  f266 := Tryd.func92.trans (congrArg some (by kernel_rfl))
  f267 := Tryd.func90.trans (congrArg some (by kernel_rfl))
  f314 := Tryd.func101.trans (congrArg some (by kernel_rfl))
  t3 := Tryd.underlying3
  a3 := Tryd.isAgg3
  z3 := Tryd.sizeOf3
  v3 := Tryd.zeroValue3
  t4 := Tryd.underlying4
  a4 := Tryd.isAgg4
  z4 := Tryd.sizeOf4
  v4 := Tryd.zeroValue4
  t5 := Tryd.underlying5
  a5 := Tryd.isAgg5
  z5 := Tryd.sizeOf5
  v5 := Tryd.zeroValue5
  t9 := Tryd.underlying9
  a9 := Tryd.isAgg9
  z9 := Tryd.sizeOf9
  v9 := Tryd.zeroValue9
  t46 := Tryd.underlying86
  a46 := Tryd.isAgg86
  z46 := Tryd.sizeOf86
  v46 := Tryd.zeroValue86
  t51 := Tryd.underlying117
  a51 := Tryd.isAgg117
  z51 := Tryd.sizeOf117
  v51 := Tryd.zeroValue117
  t146 := Tryd.underlying121
  a146 := Tryd.isAgg121
  z146 := Tryd.sizeOf121
  v146 := Tryd.zeroValue121
  g1 := by kernel_rfl }
open Go.RowKit Go.Lib in
/-- strings.Index: "Index returns the index of the first instance of substr in s, or -1 if substr is not present in s.": IT RETURNS 'Lib.index s substr'; the world is as it was. (LAID: no walk: one application.) -/
theorem Tryd.strings_Index (s sub : ByteArray) (m : Int) (w : World) (hs : s.size < 4294967281) (hm : w.cell? ⟨1, 0, none⟩ = some (.int .i64 m)) :
    Calls Tryd.prog 44 #[.string s, .string sub] w fun e w' => e = .returned (.int .i64 (Lib.index s.data.toList sub.data.toList)) ∧ w' = w := Any.strings_Index Tryd.lays143 s sub m w hs hm
def Tryd.lays145_ren : Go.Shelf.Ren := ⟨fun | 145 => 43 | 220 => 70 | 219 => 71 | 217 => 74 | 225 => 88 | 224 => 89 | 267 => 90 | 266 => 92 | 314 => 101 | n => n, fun | 9 => 9 | 4 => 4 | 59 => 62 | 3 => 3 | 5 => 5 | 46 => 86 | 146 => 121 | 51 => 117 | n => n, fun | 1 => 1 | n => n⟩
theorem Tryd.lays145 : Go.Proofs.Lays.n145 Tryd.prog Tryd.lays145_ren := {
  mixed := by kernel_rfl
  f145 := Tryd.func43.trans (congrArg some (by kernel_rfl))
  f217 := Tryd.func74.trans (congrArg some (by kernel_rfl))
  f219 := Tryd.func71.trans (congrArg some (by kernel_rfl))
  f220 := Tryd.func70.trans (congrArg some (by kernel_rfl))
  f224 := Tryd.func89.trans (congrArg some (by kernel_rfl))
  f225 := Tryd.func88.trans (congrArg some (by kernel_rfl))
  f266 := Tryd.func92.trans (congrArg some (by kernel_rfl))
  f267 := Tryd.func90.trans (congrArg some (by kernel_rfl))
  f314 := Tryd.func101.trans (congrArg some (by kernel_rfl))
  t3 := Tryd.underlying3
  a3 := Tryd.isAgg3
  z3 := Tryd.sizeOf3
  v3 := Tryd.zeroValue3
  t4 := Tryd.underlying4
  a4 := Tryd.isAgg4
  z4 := Tryd.sizeOf4
  v4 := Tryd.zeroValue4
  t5 := Tryd.underlying5
  a5 := Tryd.isAgg5
  z5 := Tryd.sizeOf5
  v5 := Tryd.zeroValue5
  t9 := Tryd.underlying9
  a9 := Tryd.isAgg9
  z9 := Tryd.sizeOf9
  v9 := Tryd.zeroValue9
  t46 := Tryd.underlying86
  a46 := Tryd.isAgg86
  z46 := Tryd.sizeOf86
  v46 := Tryd.zeroValue86
  t51 := Tryd.underlying117
  a51 := Tryd.isAgg117
  z51 := Tryd.sizeOf117
  v51 := Tryd.zeroValue117
  t59 := Tryd.underlying62
  a59 := Tryd.isAgg62
  z59 := Tryd.sizeOf62
  v59 := Tryd.zeroValue62
  t146 := Tryd.underlying121
  a146 := Tryd.isAgg121
  z146 := Tryd.sizeOf121
  v146 := Tryd.zeroValue121
  g1 := by kernel_rfl }
open Go.RowKit Go.Lib in
/-- strings.Cut: "Cut slices s around the first instance of sep, returning the text before and after sep. The found result reports whether sep appears in s. If sep does not appear in s, cut returns s, "", false.": IT RETURNS 'Lib.cut s sep'; the world is as it was but for the count of draws. (LAID: no walk: one application.) -/
theorem Tryd.strings_Cut (s sep : ByteArray) (m : Int) (w : World) (hs : s.size < 4294967281) (hm : w.cell? ⟨1, 0, none⟩ = some (.int .i64 m)) :
    Calls Tryd.prog 43 #[.string s, .string sep] w fun e w' => e = .returned (.tuple #[.string ⟨(Lib.cut s.data.toList sep.data.toList).1.toArray⟩, .string ⟨(Lib.cut s.data.toList sep.data.toList).2.1.toArray⟩, .bool (Lib.cut s.data.toList sep.data.toList).2.2]) ∧ ∃ n, w' = w.drewN n := Any.strings_Cut Tryd.lays145 s sep m w hs hm
def Tryd.laysM143_ren : Go.Shelf.Ren := ⟨fun | 143 => 44 | 219 => 71 | 217 => 74 | 225 => 88 | 224 => 89 | 267 => 90 | 266 => 92 | 314 => 101 | n => n, fun | 9 => 9 | 3 => 3 | 4 => 4 | 5 => 5 | 46 => 86 | 146 => 121 | 51 => 117 | n => n, fun | 1 => 1 | n => n⟩
theorem Tryd.laysM143 : Go.Proofs.LaysM.n143 Tryd.prog Tryd.laysM143_ren := {
  mixed := by kernel_rfl
  f143 := Tryd.func44.trans (congrArg some (by kernel_rfl))
  f217 := Tryd.func74.trans (congrArg some (by kernel_rfl))
  f219 := Tryd.func71.trans (congrArg some (by kernel_rfl))
  f224 := Tryd.func89.trans (congrArg some (by kernel_rfl))
  f225 := Tryd.func88.trans (congrArg some (by kernel_rfl))
  f266 := Tryd.func92.trans (congrArg some (by kernel_rfl))
  f267 := Tryd.func90.trans (congrArg some (by kernel_rfl))
  f314 := Tryd.func101.trans (congrArg some (by kernel_rfl))
  t3 := Tryd.underlying3
  a3 := Tryd.isAgg3
  z3 := Tryd.sizeOf3
  v3 := Tryd.zeroValue3
  t4 := Tryd.underlying4
  a4 := Tryd.isAgg4
  z4 := Tryd.sizeOf4
  v4 := Tryd.zeroValue4
  t5 := Tryd.underlying5
  a5 := Tryd.isAgg5
  z5 := Tryd.sizeOf5
  v5 := Tryd.zeroValue5
  t9 := Tryd.underlying9
  a9 := Tryd.isAgg9
  z9 := Tryd.sizeOf9
  v9 := Tryd.zeroValue9
  t46 := Tryd.underlying86
  a46 := Tryd.isAgg86
  z46 := Tryd.sizeOf86
  v46 := Tryd.zeroValue86
  t51 := Tryd.underlying117
  a51 := Tryd.isAgg117
  z51 := Tryd.sizeOf117
  v51 := Tryd.zeroValue117
  t146 := Tryd.underlying121
  a146 := Tryd.isAgg121
  z146 := Tryd.sizeOf121
  v146 := Tryd.zeroValue121
  g1 := by kernel_rfl
  i3 := by kernel_rfl
  i4 := by kernel_rfl
  i5 := by kernel_rfl
  i9 := by kernel_rfl
  i46 := by kernel_rfl
  i51 := by kernel_rfl
  i146 := by kernel_rfl
  m1 := by kernel_rfl
  s1_3 := fun w h => Go.Proofs.cell_of_shapedOpen_int (zero := #[.int .i64 0]) (t := 3) h (of_decide_eq_true (by kernel_rfl)) (by kernel_rfl) rfl (by kernel_rfl) (by kernel_rfl) Tryd.underlying3 }
def Tryd.laysGw15_ren : Go.Shelf.Ren := ⟨fun | 15 => 30 | 20 => 54 | n => n, fun | 9 => 9 | 23 => 52 | 3 => 3 | 4 => 4 | 0 => 0 | 21 => 21 | n => n, fun | n => n⟩
theorem Tryd.laysGw15 : Go.Proofs.LaysGw.n15 Tryd.prog Tryd.laysGw15_ren := {
  mixed := by kernel_rfl
  f15 := Tryd.func30.trans (congrArg some (by kernel_rfl))
  f20 := Tryd.func54.trans (congrArg some (by kernel_rfl))
  t0 := Tryd.underlying0
  a0 := Tryd.isAgg0
  z0 := Tryd.sizeOf0
  v0 := Tryd.zeroValue0
  i0 := by kernel_rfl
  t3 := Tryd.underlying3
  a3 := Tryd.isAgg3
  z3 := Tryd.sizeOf3
  v3 := Tryd.zeroValue3
  i3 := by kernel_rfl
  t4 := Tryd.underlying4
  a4 := Tryd.isAgg4
  z4 := Tryd.sizeOf4
  v4 := Tryd.zeroValue4
  i4 := by kernel_rfl
  t9 := Tryd.underlying9
  a9 := Tryd.isAgg9
  z9 := Tryd.sizeOf9
  v9 := Tryd.zeroValue9
  i9 := by kernel_rfl
  t21 := Tryd.underlying21
  a21 := Tryd.isAgg21
  z21 := Tryd.sizeOf21
  v21 := Tryd.zeroValue21
  i21 := by kernel_rfl
  t23 := Tryd.underlying52
  a23 := Tryd.isAgg52
  z23 := Tryd.sizeOf52
  v23 := Tryd.zeroValue52
  i23 := by kernel_rfl }
open Go.RowKit Go.Lib in
theorem Tryd.strings_IndexFunc (g : Nat) (lb : Array Value) (eg : ∀ args w, (callFunc g args).run Tryd.prog w = .ok (.enter g args) w) (p : Nat → Bool) (s : ByteArray) (w : World) (hp : PredAt Tryd.prog g lb encR p w) :
    Calls Tryd.prog 30 #[.string s, .func (.func g) #[] lb] w fun e w' => e = .returned (.int .i64 (Lib.idxFunc p true s)) ∧ Below w.heap.size w w' := Any.strings_IndexFunc Tryd.laysGw15 g lb eg p s w hp
def Tryd.lays99_ren : Go.Shelf.Ren := ⟨fun | 99 => 42 | 206 => 69 | n => n, fun | 9 => 9 | 4 => 4 | 3 => 3 | n => n, fun | n => n⟩
theorem Tryd.lays99 : Go.Proofs.Lays.n99 Tryd.prog Tryd.lays99_ren := {
  mixed := by kernel_rfl
  f99 := Tryd.func42.trans (congrArg some (by kernel_rfl))
  f206 := Tryd.func69.trans (congrArg some (by kernel_rfl))
  t3 := Tryd.underlying3
  a3 := Tryd.isAgg3
  z3 := Tryd.sizeOf3
  v3 := Tryd.zeroValue3
  t4 := Tryd.underlying4
  a4 := Tryd.isAgg4
  z4 := Tryd.sizeOf4
  v4 := Tryd.zeroValue4
  t9 := Tryd.underlying9
  a9 := Tryd.isAgg9
  z9 := Tryd.sizeOf9
  v9 := Tryd.zeroValue9 }
open Go.RowKit Go.Lib in
/-- strings.HasPrefix: "HasPrefix reports whether the string s begins with prefix.": IT RETURNS 'Lib.hasPrefix s prefix'; the world is as it was. (LAID: no walk: one application.) -/
theorem Tryd.strings_HasPrefix (s p : ByteArray) (w : World) :
    Calls Tryd.prog 42 #[.string s, .string p] w fun e w' => e = .returned (.bool (Lib.hasPrefix s.data.toList p.data.toList)) ∧ w' = w := Any.strings_HasPrefix Tryd.lays99 s p w
def Tryd.lays155_ren : Go.Shelf.Ren := ⟨fun | 155 => 61 | 154 => 82 | 138 => 98 | 165 => 55 | 143 => 44 | 166 => 56 | 197 => 77 | 169 => 58 | 195 => 105 | 218 => 106 | 240 => 75 | 241 => 76 | 219 => 71 | 260 => 95 | 276 => 93 | 277 => 94 | 217 => 74 | 225 => 88 | 224 => 89 | 267 => 90 | 266 => 92 | 314 => 101 | n => n, fun | 9 => 9 | 3 => 3 | 4 => 4 | 72 => 76 | 0 => 0 | 76 => 80 | 105 => 96 | 21 => 21 | 5 => 5 | 70 => 73 | 20 => 20 | 37 => 74 | 75 => 79 | 127 => 95 | 164 => 107 | 46 => 86 | 119 => 103 | 139 => 125 | 138 => 124 | 146 => 121 | 51 => 117 | 80 => 43 | n => n, fun | 1 => 1 | 3 => 4 | 4 => 5 | n => n⟩
theorem Tryd.lays155 : Go.Proofs.Lays.n155 Tryd.prog Tryd.lays155_ren := {
  mixed := by kernel_rfl
  f138 := Tryd.func98.trans (congrArg some (by kernel_rfl))
  f143 := Tryd.func44.trans (congrArg some (by kernel_rfl))
  f154 := Tryd.func82.trans (congrArg some (by kernel_rfl))
  f155 := Tryd.func61.trans (congrArg some (by kernel_rfl))
  f165 := Tryd.func55.trans (congrArg some (by kernel_rfl))
  f166 := Tryd.func56.trans (congrArg some (by kernel_rfl))
  f169 := Tryd.func58.trans (congrArg some (by kernel_rfl))
  f195 := Tryd.func105.trans (congrArg some (by kernel_rfl))
  f197 := Tryd.func77.trans (congrArg some (by kernel_rfl))
  f217 := Tryd.func74.trans (congrArg some (by kernel_rfl))
  f218 := Tryd.func106.trans (congrArg some (by kernel_rfl))
  f219 := Tryd.func71.trans (congrArg some (by kernel_rfl))
  f224 := Tryd.func89.trans (congrArg some (by kernel_rfl))
  f225 := Tryd.func88.trans (congrArg some (by kernel_rfl))
  f240 := Tryd.func75.trans (congrArg some (by kernel_rfl))
  f241 := Tryd.func76.trans (congrArg some (by kernel_rfl))
  f260 := Tryd.func95.trans (congrArg some (by kernel_rfl))
  f266 := Tryd.func92.trans (congrArg some (by kernel_rfl))
  f267 := Tryd.func90.trans (congrArg some (by kernel_rfl))
  f276 := Tryd.func93.trans (congrArg some (by kernel_rfl))
  f277 := Tryd.func94.trans (congrArg some (by kernel_rfl))
  f314 := Tryd.func101.trans (congrArg some (by kernel_rfl))
  t0 := Tryd.underlying0
  a0 := Tryd.isAgg0
  z0 := Tryd.sizeOf0
  v0 := Tryd.zeroValue0
  t3 := Tryd.underlying3
  a3 := Tryd.isAgg3
  z3 := Tryd.sizeOf3
  v3 := Tryd.zeroValue3
  t4 := Tryd.underlying4
  a4 := Tryd.isAgg4
  z4 := Tryd.sizeOf4
  v4 := Tryd.zeroValue4
  t5 := Tryd.underlying5
  a5 := Tryd.isAgg5
  z5 := Tryd.sizeOf5
  v5 := Tryd.zeroValue5
  t9 := Tryd.underlying9
  a9 := Tryd.isAgg9
  z9 := Tryd.sizeOf9
  v9 := Tryd.zeroValue9
  t20 := Tryd.underlying20
  a20 := Tryd.isAgg20
  z20 := Tryd.sizeOf20
  v20 := Tryd.zeroValue20
  t21 := Tryd.underlying21
  a21 := Tryd.isAgg21
  z21 := Tryd.sizeOf21
  v21 := Tryd.zeroValue21
  t37 := Tryd.underlying74
  a37 := Tryd.isAgg74
  z37 := Tryd.sizeOf74
  v37 := Tryd.zeroValue74
  t46 := Tryd.underlying86
  a46 := Tryd.isAgg86
  z46 := Tryd.sizeOf86
  v46 := Tryd.zeroValue86
  t51 := Tryd.underlying117
  a51 := Tryd.isAgg117
  z51 := Tryd.sizeOf117
  v51 := Tryd.zeroValue117
  t70 := Tryd.underlying73
  a70 := Tryd.isAgg73
  z70 := Tryd.sizeOf73
  v70 := Tryd.zeroValue73
  t72 := Tryd.underlying76
  a72 := Tryd.isAgg76
  z72 := Tryd.sizeOf76
  v72 := Tryd.zeroValue76
  t75 := Tryd.underlying79
  a75 := Tryd.isAgg79
  z75 := Tryd.sizeOf79
  v75 := Tryd.zeroValue79
  t76 := Tryd.underlying80
  a76 := Tryd.isAgg80
  z76 := Tryd.sizeOf80
  v76 := Tryd.zeroValue80
  t105 := Tryd.underlying96
  a105 := Tryd.isAgg96
  z105 := Tryd.sizeOf96
  v105 := Tryd.zeroValue96
  t119 := Tryd.underlying103
  a119 := Tryd.isAgg103
  z119 := Tryd.sizeOf103
  t127 := Tryd.underlying95
  a127 := Tryd.isAgg95
  z127 := Tryd.sizeOf95
  v127 := Tryd.zeroValue95
  t138 := Tryd.underlying124
  a138 := Tryd.isAgg124
  z138 := Tryd.sizeOf124
  v138 := Tryd.zeroValue124
  t139 := Tryd.underlying125
  a139 := Tryd.isAgg125
  z139 := Tryd.sizeOf125
  v139 := Tryd.zeroValue125
  t146 := Tryd.underlying121
  a146 := Tryd.isAgg121
  z146 := Tryd.sizeOf121
  v146 := Tryd.zeroValue121
  t164 := Tryd.underlying107
  a164 := Tryd.isAgg107
  z164 := Tryd.sizeOf107
  v164 := Tryd.zeroValue107
  g1 := by kernel_rfl
  g3 := by kernel_rfl
  g4 := by kernel_rfl }
theorem Tryd.Builder_Extra_155 : Builder.Extra Tryd.prog Tryd.lays155_ren := {
  sizeBuilder := by kernel_rfl
  liesBuilder := by kernel_rfl
  t5 := Tryd.underlying5
  a5 := Tryd.isAgg5
  z5 := Tryd.sizeOf5
  v5 := Tryd.zeroValue5
  infoByte := by kernel_rfl
  cellsByte := by kernel_rfl
  sizeByte := by kernel_rfl
  neB5 := by decide }
open Go.RowKit Go.Lib in
/-- strings.ReplaceAll: "ReplaceAll returns a copy of the string s with all non-overlapping instances of old replaced by new.": AT AN old THAT IS NOT EMPTY: 'Lib.replaceAll s old new'. (LAID: no walk: one application.) -/
theorem Tryd.strings_ReplaceAll (s old new : ByteArray) (m : Int) (w : World) (hs : s.size < 4294967281) (hm : w.cell? ⟨1, 0, none⟩ = some (.int .i64 m)) (h1 : 1 ≤ old.size) (hlen : s.size + Lib.countB s old * new.size ≤ 140737488355328) :
    Calls Tryd.prog 61 #[.string s, .string old, .string new] w fun e w' =>
      e = .returned (.string ⟨(Lib.replaceAll s.data.toList old.data.toList new.data.toList).toArray⟩) ∧ Below w.heap.size w w' := Any.strings_ReplaceAll Tryd.lays155 Tryd.Builder_Extra_155 s old new m w hs hm h1 hlen
def Tryd.laysM157_ren : Go.Shelf.Ren := ⟨fun | 157 => 64 | 229 => 84 | 199 => 85 | 261 => 99 | 311 => 107 | 312 => 108 | n => n, fun | 9 => 9 | 31 => 58 | 3 => 3 | 5 => 5 | 4 => 4 | 119 => 103 | 0 => 0 | 40 => 52 | 152 => 114 | 21 => 21 | 154 => 116 | 51 => 117 | 141 => 119 | 196 => 133 | 193 => 130 | 198 => 136 | 49 => 134 | 194 => 131 | 201 => 139 | 226 => 145 | 46 => 86 | 227 => 146 | n => n, fun | 0 => 0 | 6 => 3 | n => n⟩
theorem Tryd.laysM157 : Go.Proofs.LaysM.n157 Tryd.prog Tryd.laysM157_ren := {
  mixed := by kernel_rfl
  f157 := Tryd.func64.trans (congrArg some (by kernel_rfl))
  f199 := Tryd.func85.trans (congrArg some (by kernel_rfl))
  f229 := Tryd.func84.trans (congrArg some (by kernel_rfl))
  f261 := Tryd.func99.trans (congrArg some (by kernel_rfl))
  f311 := Tryd.func107.trans (congrArg some (by kernel_rfl))
  f312 := Tryd.func108.trans (congrArg some (by kernel_rfl))
  t0 := Tryd.underlying0
  a0 := Tryd.isAgg0
  z0 := Tryd.sizeOf0
  v0 := Tryd.zeroValue0
  t3 := Tryd.underlying3
  a3 := Tryd.isAgg3
  z3 := Tryd.sizeOf3
  v3 := Tryd.zeroValue3
  t4 := Tryd.underlying4
  a4 := Tryd.isAgg4
  z4 := Tryd.sizeOf4
  v4 := Tryd.zeroValue4
  t5 := Tryd.underlying5
  a5 := Tryd.isAgg5
  z5 := Tryd.sizeOf5
  v5 := Tryd.zeroValue5
  t9 := Tryd.underlying9
  a9 := Tryd.isAgg9
  z9 := Tryd.sizeOf9
  v9 := Tryd.zeroValue9
  t21 := Tryd.underlying21
  a21 := Tryd.isAgg21
  z21 := Tryd.sizeOf21
  v21 := Tryd.zeroValue21
  t31 := Tryd.underlying58
  a31 := Tryd.isAgg58
  z31 := Tryd.sizeOf58
  v31 := Tryd.zeroValue58
  t40 := Tryd.underlying52
  a40 := Tryd.isAgg52
  z40 := Tryd.sizeOf52
  v40 := Tryd.zeroValue52
  t46 := Tryd.underlying86
  a46 := Tryd.isAgg86
  z46 := Tryd.sizeOf86
  v46 := Tryd.zeroValue86
  t49 := Tryd.underlying134
  a49 := Tryd.isAgg134
  z49 := Tryd.sizeOf134
  v49 := Tryd.zeroValue134
  t51 := Tryd.underlying117
  a51 := Tryd.isAgg117
  z51 := Tryd.sizeOf117
  v51 := Tryd.zeroValue117
  t119 := Tryd.underlying103
  a119 := Tryd.isAgg103
  z119 := Tryd.sizeOf103
  t141 := Tryd.underlying119
  a141 := Tryd.isAgg119
  z141 := Tryd.sizeOf119
  v141 := Tryd.zeroValue119
  t152 := Tryd.underlying114
  a152 := Tryd.isAgg114
  z152 := Tryd.sizeOf114
  v152 := Tryd.zeroValue114
  t154 := Tryd.underlying116
  a154 := Tryd.isAgg116
  z154 := Tryd.sizeOf116
  v154 := Tryd.zeroValue116
  t193 := Tryd.underlying130
  a193 := Tryd.isAgg130
  z193 := Tryd.sizeOf130
  v193 := Tryd.zeroValue130
  t194 := Tryd.underlying131
  a194 := Tryd.isAgg131
  z194 := Tryd.sizeOf131
  v194 := Tryd.zeroValue131
  t196 := Tryd.underlying133
  a196 := Tryd.isAgg133
  z196 := Tryd.sizeOf133
  v196 := Tryd.zeroValue133
  t198 := Tryd.underlying136
  a198 := Tryd.isAgg136
  z198 := Tryd.sizeOf136
  v198 := Tryd.zeroValue136
  t201 := Tryd.underlying139
  a201 := Tryd.isAgg139
  z201 := Tryd.sizeOf139
  v201 := Tryd.zeroValue139
  t226 := Tryd.underlying145
  a226 := Tryd.isAgg145
  z226 := Tryd.sizeOf145
  v226 := Tryd.zeroValue145
  t227 := Tryd.underlying146
  a227 := Tryd.isAgg146
  z227 := Tryd.sizeOf146
  v227 := Tryd.zeroValue146
  g0 := by kernel_rfl
  g6 := by kernel_rfl
  i0 := by kernel_rfl
  i3 := by kernel_rfl
  i4 := by kernel_rfl
  i5 := by kernel_rfl
  i9 := by kernel_rfl
  i21 := by kernel_rfl
  i31 := by kernel_rfl
  i40 := by kernel_rfl
  i46 := by kernel_rfl
  i49 := by kernel_rfl
  i51 := by kernel_rfl
  i141 := by kernel_rfl
  i152 := by kernel_rfl
  i154 := by kernel_rfl
  i193 := by kernel_rfl
  i194 := by kernel_rfl
  i196 := by kernel_rfl
  i198 := by kernel_rfl
  i201 := by kernel_rfl
  i226 := by kernel_rfl
  i227 := by kernel_rfl
  m0 := by kernel_rfl
  m6 := by kernel_rfl }
open Go.RowKit Go.Lib in
/-- strings.Fields on ASCII bytes. (The table: 'Lib.TabIs', as strings.TrimSpace's contract asks it.) (LAID: no walk: one application.) -/
theorem Tryd.strings_Fields_laid (s : ByteArray) (w : World) (hs : s.size < 4294967281) (hascii : ∀ (j : Nat) b, s.data.toList[j]? = some b → b.toNat < 128) (htab : Lib.TabIs Tryd.prog w "strings.asciiSpace" .u8 Lib.asciiSpaceTab) :
    Calls Tryd.prog 64 #[.string s] w fun e w' =>
      e = .returned (.slice (some ⟨w.heap.size, 0, none⟩) (Lib.fields s.data.toList).length (Lib.fields s.data.toList).length) ∧ w' = w.alloc (.cells ((Lib.fields s.data.toList).map fun l => Value.string ⟨l.toArray⟩).toArray 9) := Any.strings_Fields_laid Tryd.laysM157 s w hs hascii htab
open Go.RowKit Go.Lib in
theorem Tryd.strings_IndexFunc_grows (g : Nat) (lb : Array Value) (eg : ∀ args w, (callFunc g args).run Tryd.prog w = .ok (.enter g args) w) (p : Nat → Bool) (s : ByteArray) (w : World) (hp : PredGrows Tryd.prog g lb p w) :
    Calls Tryd.prog 30 #[.string s, .func (.func g) #[] lb] w fun e w' => e = .returned (.int .i64 (Lib.idxFunc p true s)) ∧ Below w.heap.size w w' := Any.strings_IndexFunc_grows Tryd.laysGw15 g lb eg p s w hp
end Go.Proofs
end
section
namespace Go.Proofs.YtlaafpbhhnehgaaDoor
set_option linter.unusedVariables false
set_option linter.unusedSimpArgs false
open Go.RowKit
/-- what the tables hold that this part of the library reads -/
structure Tab (w : World) : Prop where
  asc : Lib.TabIs Tryd.prog w "strings.asciiSpace" .u8 Lib.asciiSpaceTab
  len : ∃ m, w.cell? ⟨1, 0, none⟩ = some (.int .i64 m)
/-- the words, in their order, by their letters -/
def wordsText : List UInt8 := [65, 76, 76, 32, 65, 78, 68, 32, 65, 83, 32, 65, 83, 67, 32, 66, 79, 79, 76, 32, 66, 89, 32, 67, 65, 83, 84, 32, 67, 79, 65, 76, 69, 83, 67, 69, 32, 67, 79, 85, 78, 84, 32, 67, 82, 69, 65, 84, 69, 32, 67, 82, 79, 83, 83, 32, 68, 69, 76, 69, 84, 69, 32, 68, 69, 83, 67, 32, 68, 73, 83, 84, 73, 78, 67, 84, 32, 68, 82, 79, 80, 32, 69, 88, 67, 69, 80, 84, 32, 69, 88, 73, 83, 84, 83, 32, 70, 65, 76, 83, 69, 32, 70, 76, 79, 65, 84, 32, 70, 82, 79, 77, 32, 71, 82, 79, 85, 80, 32, 72, 65, 86, 73, 78, 71, 32, 73, 78, 32, 73, 78, 78, 69, 82, 32, 73, 78, 83, 69, 82, 84, 32, 73, 78, 84, 32, 73, 78, 84, 69, 82, 83, 69, 67, 84, 32, 73, 78, 84, 79, 32, 73, 83, 32, 74, 79, 73, 78, 32, 76, 69, 70, 84, 32, 76, 73, 77, 73, 84, 32, 77, 65, 88, 32, 77, 73, 78, 32, 78, 79, 84, 32, 78, 85, 76, 76, 32, 79, 78, 32, 79, 82, 32, 79, 82, 68, 69, 82, 32, 82, 69, 67, 85, 82, 83, 73, 86, 69, 32, 83, 69, 76, 69, 67, 84, 32, 83, 69, 84, 32, 83, 85, 77, 32, 84, 65, 66, 76, 69, 32, 84, 69, 88, 84, 32, 84, 82, 85, 69, 32, 85, 78, 73, 79, 78, 32, 85, 80, 68, 65, 84, 69, 32, 86, 65, 76, 85, 69, 83, 32, 86, 73, 69, 87, 32, 87, 72, 69, 82, 69, 32, 87, 73, 84, 72]
def wordsL : List (List UInt8) := Lib.fields wordsText
theorem words_ascii : ∀ (j : Nat) b, wordsText[j]? = some b → b.toNat < 128 := by
  have h : wordsText.all (fun b => b.toNat < 128) = true := by decide +kernel
  intro j b hb
  exact of_decide_eq_true (List.all_eq_true.1 h b (List.mem_of_getElem? hb))
set_option maxRecDepth 100000 in
theorem words_c (w : World) (ht : Tab w) :
    Calls Tryd.prog 39 #[] w fun e w' => e = .returned (.slice (some ⟨w.heap.size, 0, none⟩) wordsL.length wordsL.length) ∧ w' = w.alloc (.cells (wordsL.map fun l => Value.string ⟨l.toArray⟩).toArray 9) := by
  go_enter Tryd.func39, Tryd.ntmps39
  go_wp2_with (go_at_call 64; refine (Tryd.strings_Fields_laid ⟨wordsText.toArray⟩ _ (by decide +kernel) (by simpa using words_ascii) ht.asc).mono ?_; rintro e w' ⟨rfl, rfl⟩)
  go_ret
  exact ⟨rfl, rfl⟩
end Go.Proofs.YtlaafpbhhnehgaaDoor
end
section
namespace Go.Proofs.YtlaafpbhhnehgaaDoor
set_option linter.unusedVariables false
set_option linter.unusedSimpArgs false
open Go.RowKit
theorem sizeBuilder : (Tryd.prog.info? 76).map (·.size) = some 2 := by kernel_rfl
theorem liesBuilder : liesAt Tryd.prog Tryd.prog.depth 76 (2 / Tryd.prog.cellsOf 76) 0 76 1 = true := by kernel_rfl
theorem infoByte : (Tryd.prog.info? 5).map (fun i => (i.zero, i.size, i.bytes)) = some (some (.int .u8 0), 1, 1) := by kernel_rfl
set_option maxHeartbeats 1000000 in
set_option maxRecDepth 100000 in
theorem copyCheck_used (b : Nat) (w : World) (h0 : w.cell? ⟨b, 0, none⟩ = some (.pointer (some ⟨b, 0, none⟩))) :
    Calls Tryd.prog 75 #[.pointer (some ⟨b, 0, none⟩)] w fun e w' => e = .returned (.tuple #[]) ∧ w = w' := by
  obtain ⟨j, hj, _⟩ := Option.map_eq_some_iff.1 sizeBuilder
  go_enter Tryd.func75, Tryd.ntmps75
  go_wp2
  rw [Lib.run_neq_ptr_same w _ Tryd.underlying73 hj]
  go_wp2
  go_end0
  exact ⟨rfl, rfl⟩
set_option maxHeartbeats 1000000 in
set_option maxRecDepth 100000 in
theorem copyCheck_fresh (b : Nat) (w : World) (h0 : w.cell? ⟨b, 0, none⟩ = some (.pointer none)) (hsh : w.shape? b = some (76, 2)) (hfz : w.frozen? ⟨b, 0, none⟩ = false) :
    Calls Tryd.prog 75 #[.pointer (some ⟨b, 0, none⟩)] w fun e w' => e = .returned (.tuple #[]) ∧ w' = w.setCell ⟨b, 0, none⟩ (.pointer (some ⟨b, 0, none⟩)) := by
  obtain ⟨j, hj, hjs⟩ := Option.map_eq_some_iff.1 sizeBuilder
  go_enter Tryd.func75, Tryd.ntmps75
  go_wp2
  rw [Lib.run_to_unsafe w ⟨b, 0, none⟩ Tryd.underlying73 Tryd.underlying107 hj (by rw [hjs]; decide) hsh (Nat.zero_lt_succ 1)]
  simp only [Result.andThen]
  rw [Oper.upon_value]
  go_wp2
  rw [run_callFunc_extern Tryd.func93 (by kernel_rfl) (by kernel_rfl) (by kernel_rfl) (e := Extern.AbiNoEscape.same) (by kernel_rfl)]
  rw [Lib.run_noEscape]
  simp only [Result.andThen]
  rw [Oper.upon_value]
  go_wp2
  rw [Lib.run_from_unsafe w ⟨b, 0, none⟩ Tryd.underlying107 Tryd.underlying73 hj hsh liesBuilder]
  simp only [Result.andThen]
  rw [Oper.upon_value]
  go_wp2
  go_end0
  exact ⟨rfl, rfl⟩
/-- the builder in block b holds these bytes -/
def Bld (B b : Nat) (l : List UInt8) (w : World) : Prop := Lib.IsBuilder 76 5 B b (Lib.byteCells l) w
theorem copyCheck_b (B b : Nat) (bs : List Value) (w : World) (h : Lib.IsBuilder 76 5 B b bs w) :
    Calls Tryd.prog 75 #[.pointer (some ⟨b, 0, none⟩)] w fun e w' => e = .returned (.tuple #[]) ∧ (Lib.BuilderAt 76 5 B b (.pointer (some ⟨b, 0, none⟩)) bs w' ∧ Below B w w' ∧ ∀ k, k ≠ b → w'.heap[k]? = w.heap[k]?) := by
  rcases h with h | h
  · refine (copyCheck_fresh b w h.cell0 h.shape h.frozen0).mono ?_
    rintro e w' ⟨rfl, rfl⟩
    exact ⟨rfl, h.used _, (Below.refl B w).setCell (p := ⟨b, 0, none⟩) h.1 _, fun k hk => Below.heap_setCell _ _ _ _ hk⟩
  · refine (copyCheck_used b w h.cell0).mono ?_
    rintro e w' ⟨rfl, rfl⟩
    exact ⟨rfl, h, Below.refl B _, fun _ _ => rfl⟩
theorem byteCells_app (l m : List UInt8) : Lib.byteCells (l ++ m) = Lib.byteCells l ++ Lib.byteCells m := by simp [Lib.byteCells]
set_option maxHeartbeats 2000000 in
set_option maxRecDepth 100000 in
theorem writeByte_c (B b : Nat) (l : List UInt8) (c : UInt8) (w : World) (h : Bld B b l w) (hlen : l.length + 1 ≤ 140737488355328) (hBw : B ≤ w.heap.size) :
    Calls Tryd.prog 57 #[.pointer (some ⟨b, 0, none⟩), .int .u8 c.toNat] w fun e w' => e = .returned .nilIface ∧ Bld B b (l ++ [c]) w' ∧ Below B w w' := by
  obtain ⟨i0, hi, hz0, hz1, hz2⟩ := info_parts infoByte
  have hll : (Lib.byteCells l).length = l.length := by simp [Lib.byteCells]
  go_enter Tryd.func57, Tryd.ntmps57
  go_wp2_with (go_at_call 75; refine (copyCheck_b B b _ _ h).mono ?_)
  rintro e w1 ⟨rfl, h1, hb1, _⟩
  obtain ⟨hB, v, hbk, hown, hne⟩ := h1
  have c0 : w1.cell? ⟨b, 0, none⟩ = some (.pointer (some ⟨b, 0, none⟩)) := by rw [Lib.cell_of_heap hbk]; rfl
  have c1 : w1.cell? ⟨b, 1, none⟩ = some v := by rw [Lib.cell_of_heap hbk]; rfl
  go_wp2_with (at_builtin; refine wpList_append_own _ rfl _ _ 74 rfl B 5 i0 (.int .u8 0) 1 1 Tryd.underlying74 hi hz0 hz1 hz2 rfl (by decide) _ _ _ rfl (hown.alloc _) ⟨w1.heap.size, 0, none⟩ 1 1 [.int .u8 c.toNat] rfl rfl ?c1 ?c2 ?c3 ?c4 ?c5 ?_)
  case c1 =>
    intro j u hj
    match j, hj with
    | 0, hj => simp at hj; subst hj; simp [Addr.add]
  case c2 => intro u hu; simp at hu; subst hu; rfl
  case c3 => unfold maxLen; omega
  case c4 => omega
  case c5 => have := hb1.size; simp; omega
  intro v' w2 hown' hgrow _
  have hlt : b < w1.heap.size := by
    rcases Nat.lt_or_ge b w1.heap.size with h' | h'
    · exact h'
    · simp [Array.getElem?_eq_none h'] at hbk
  have hb2 : w2.heap[b]? = some (.cells #[.pointer (some ⟨b, 0, none⟩), v] 76 (0, 0)) := by
    rw [hgrow.block b (by simp; omega) (fun e => hne e.symm), Lib.alloc_old w1 _ b hlt]
    exact hbk
  have d0 : w2.cell? ⟨b, 0, none⟩ = some (.pointer (some ⟨b, 0, none⟩)) := by rw [Lib.cell_of_heap hb2]; rfl
  have d1 : w2.cell? ⟨b, 1, none⟩ = some v := by rw [Lib.cell_of_heap hb2]; rfl
  have f1 : w2.frozen? ⟨b, 1, none⟩ = false := Lib.frozen_of_heap hb2 1
  obtain ⟨g, cap, rfl⟩ : ∃ g cap, v' = .slice (some ⟨g, 0, none⟩) (l.length + 1) cap := by
    rcases hown'.2 with ⟨_, h0⟩ | ⟨g, cap, cur, hv, _⟩
    · omega
    · exact ⟨g, cap, hv⟩
  go_wp2
  go_ret
  refine ⟨rfl, ?_, ?_⟩
  · refine .inr ?_
    rw [byteCells_app]
    exact Lib.BuilderAt.put (T := 76) (e := 5) hB hb2 (bs' := Lib.byteCells l ++ [.int .u8 c.toNat]) (by simpa [hll] using hown') (by decide)
  · exact ((hb1.alloc (by have := hb1.size; omega) _).grown hgrow (by have := hb1.size; simp; omega) (fun k hk => (hown.lt k hk).1)).setCell (p := ⟨b, 1, none⟩) hB _
set_option maxHeartbeats 2000000 in
set_option maxRecDepth 100000 in
theorem writeString_c (B b : Nat) (l : List UInt8) (s : ByteArray) (w : World) (h : Bld B b l w) (hlen : l.length + s.size ≤ 140737488355328) (hBw : B ≤ w.heap.size) :
    Calls Tryd.prog 56 #[.pointer (some ⟨b, 0, none⟩), .string s] w fun e w' => e = .returned (.tuple #[.int .i64 s.size, .nilIface]) ∧ Bld B b (l ++ s.data.toList) w' ∧ Below B w w' := by
  obtain ⟨i0, hi, hz0, hz1, hz2⟩ := info_parts infoByte
  have hll : (Lib.byteCells l).length = l.length := by simp [Lib.byteCells]
  go_enter Tryd.func56, Tryd.ntmps56
  go_wp2_with (go_at_call 75; refine (copyCheck_b B b _ _ h).mono ?_)
  rintro e w1 ⟨rfl, h1, hb1, _⟩
  obtain ⟨hB, v, hbk, hown, hne⟩ := h1
  have c0 : w1.cell? ⟨b, 0, none⟩ = some (.pointer (some ⟨b, 0, none⟩)) := by rw [Lib.cell_of_heap hbk]; rfl
  have c1 : w1.cell? ⟨b, 1, none⟩ = some v := by rw [Lib.cell_of_heap hbk]; rfl
  go_wp2_with (at_builtin; refine Lib.wpList_append_own_string _ rfl _ _ 74 9 rfl B 5 i0 Tryd.underlying74 Tryd.underlying9 hi hz0 hz1 hz2 _ _ _ rfl hown s rfl ?c3 ?c4 ?c5 ?_)
  case c3 => unfold maxLen; omega
  case c4 => omega
  case c5 => have := hb1.size; omega
  intro v' w2 hown' hgrow _
  have hlt : b < w1.heap.size := by
    rcases Nat.lt_or_ge b w1.heap.size with h' | h'
    · exact h'
    · simp [Array.getElem?_eq_none h'] at hbk
  have hb2 : w2.heap[b]? = some (.cells #[.pointer (some ⟨b, 0, none⟩), v] 76 (0, 0)) := by
    rw [hgrow.block b hlt (fun e => hne e.symm)]
    exact hbk
  have d0 : w2.cell? ⟨b, 0, none⟩ = some (.pointer (some ⟨b, 0, none⟩)) := by rw [Lib.cell_of_heap hb2]; rfl
  have d1 : w2.cell? ⟨b, 1, none⟩ = some v := by rw [Lib.cell_of_heap hb2]; rfl
  have f1 : w2.frozen? ⟨b, 1, none⟩ = false := Lib.frozen_of_heap hb2 1
  obtain ⟨ao, n', cap, rfl⟩ : ∃ ao n' cap, v' = .slice ao n' cap := by
    rcases hown'.2 with ⟨hv, _⟩ | ⟨g, cap, cur, hv, _⟩
    · exact ⟨_, _, _, hv⟩
    · exact ⟨_, _, _, hv⟩
  go_wp2
  go_ret2
  refine ⟨rfl, ?_, ?_⟩
  · refine .inr ?_
    rw [byteCells_app]
    exact Lib.BuilderAt.put (T := 76) (e := 5) hB hb2 (bs' := Lib.byteCells l ++ Lib.strCells s) (by simpa [Lib.strCells_length, hll] using hown') (by decide)
  · exact (hb1.grown hgrow (by have := hb1.size; omega) (fun k hk => (hown.lt k hk).1)).setCell (p := ⟨b, 1, none⟩) hB _
theorem string_b (B b : Nat) (l : List UInt8) (w : World) (h : Bld B b l w) (hBw : B ≤ w.heap.size) :
    Calls Tryd.prog 58 #[.pointer (some ⟨b, 0, none⟩)] w fun e w' => e = .returned (.string ⟨l.toArray⟩) ∧ Below B w w' := Tryd.Builder_String_any B b l w h hBw
theorem bld_new (w : World) : Bld w.heap.size w.heap.size [] (w.alloc (.cells #[.pointer none, .slice none 0 0] 76)) := by
  refine .inl ⟨Nat.le_refl _, .slice none 0 0, heap_alloc_new w _, ?_, by simp [Value.ownBlock]⟩
  exact ⟨rfl, .inl ⟨rfl, rfl⟩⟩
theorem Bld.lt {B b : Nat} {l : List UInt8} {w : World} (h : Bld B b l w) : b < w.heap.size := by
  rcases h with h | h
  · exact h.lt
  · exact h.lt
theorem Bld.below {B b : Nat} {l : List UInt8} {w : World} (h : Bld B b l w) : B ≤ b := by
  rcases h with h | h <;> exact h.1
end Go.Proofs.YtlaafpbhhnehgaaDoor
end
