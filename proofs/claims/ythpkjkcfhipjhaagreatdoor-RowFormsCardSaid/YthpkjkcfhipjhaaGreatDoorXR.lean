/- Contracts of row's functions, and of those of val that it leans on, in the shape that the printed walks ask. -/
import Derived.Test.YthpkjkcfhipjhaaGreatDoorME
import Derived.Test.YthpkjkcfhipjhaaGreatDoorR10
import Derived.Test.YthpkjkcfhipjhaaGreatDoorV11
import Derived.Test.YthpkjkcfhipjhaaGreatDoorMB
namespace Go.Proofs.YthpkjkcfhipjhaaGreatDoor
set_option linter.unusedVariables false
set_option linter.unusedSimpArgs false
open Go.RowKit Go.Proofs.YthpkjkcfhipjhaaGreatDoorW.PrintWords Go.Proofs.YthpkjkcfhipjhaaGreatDoorW.PrintLast PRW

theorem tab_at {w0 W : World} (h : RTab w0) (hb : Below w0.heap.size w0 W) : RTab W := h.below hb
theorem tab_drew {w0 : World} (h : RTab w0) : RTab w0.drew := h.below (Below.refl _ _).drew
theorem tab_drewN {w0 : World} {n : Nat} (h : RTab w0) : RTab (w0.drewN n) := h.below (below_drewN (Below.refl _ _) n)

theorem ext_of {α : Type} {c : Prop} [Decidable c] {x r : α} (h : (if c then some x else none) = some r) : c ∧ x = r := by
  split at h
  · exact ⟨‹_›, Option.some.inj h⟩
  · cases h

/-- all numbers are such as the machine has -/
def rngV (x : S64) : Bool := decide (-9223372036854775808 ≤ x.f1) && decide (x.f1 ≤ 9223372036854775807) && decide (0 ≤ x.f2) && decide (x.f2 < 18446744073709551616)
def rngL (l : List S64) : Bool := l.all rngV
theorem rngV_iff (x : S64) : rngV x = true ↔ I64 x.f1 ∧ U64 x.f2 := by
  unfold rngV I64 U64; simp [and_assoc]
theorem rngL_I {l : List S64} (h : rngL l = true) : ∀ x ∈ l, I64 x.f1 := fun x hx => ((rngV_iff x).1 (List.all_eq_true.1 h x hx)).1
theorem rngL_U {l : List S64} (h : rngL l = true) : ∀ x ∈ l, U64 x.f2 := fun x hx => ((rngV_iff x).1 (List.all_eq_true.1 h x hx)).2

def xSound.f (k n f : Int) (t : ByteArray) : Option Bool := if -9223372036854775808 ≤ n ∧ n ≤ 9223372036854775807 then some (soundV k n f t) else none
theorem xSound.calls (k n f : Int) (t : ByteArray) (r : Bool) (w : World) (h : xSound.f k n f t = some r) :
    Calls Tryz.prog 67 #[.agg #[.int .i64 k, .int .i64 n, .int .u64 f, .string t]] w fun e w' => e = .returned (.bool r) ∧ Below w.heap.size w w' := by
  obtain ⟨hn, rfl⟩ := ext_of h
  exact sound_c k n f t w hn

def xCompare.f (k n f : Int) (t : ByteArray) (k' n' f' : Int) (t' : ByteArray) : Option Int := if (-9223372036854775808 ≤ n ∧ n ≤ 9223372036854775807) ∧ (-9223372036854775808 ≤ n' ∧ n' ≤ 9223372036854775807) then some (cmpV k n f t k' n' f' t') else none
theorem xCompare.calls (k n f : Int) (t : ByteArray) (k' n' f' : Int) (t' : ByteArray) (r : Int) (w : World) (h : xCompare.f k n f t k' n' f' t' = some r) :
    Calls Tryz.prog 70 #[.agg #[.int .i64 k, .int .i64 n, .int .u64 f, .string t], .agg #[.int .i64 k', .int .i64 n', .int .u64 f', .string t']] w fun e w' => e = .returned (.int .i64 r) ∧ Below w.heap.size w w' := by
  obtain ⟨⟨hn, hn'⟩, rfl⟩ := ext_of h
  exact compare_c k n f t k' n' f' t' w hn hn'

def xShow.f (k n f : Int) (t : ByteArray) : Option ByteArray := if (-9223372036854775808 ≤ n ∧ n ≤ 9223372036854775807) ∧ (0 ≤ f ∧ f < 18446744073709551616) then some ⟨(showL k n f t).toArray⟩ else none
theorem xShow.calls (k n f : Int) (t : ByteArray) (r : ByteArray) (w : World) (hT : RTab w) (h : xShow.f k n f t = some r) :
    Calls Tryz.prog 72 #[.agg #[.int .i64 k, .int .i64 n, .int .u64 f, .string t]] w fun e w' => e = .returned (.string r) ∧ Below w.heap.size w w' := by
  obtain ⟨⟨hn, hf⟩, rfl⟩ := ext_of h
  exact show_c k n f t w hn hf hT.pow hT.deB

def xrSound.f (k n f : Int) (t : ByteArray) : Option Bool := if 0 ≤ f ∧ f < 18446744073709551616 then some (soundV k n f t) else none
theorem xrSound.calls (k n f : Int) (t : ByteArray) (r : Bool) (w : World) (h : xrSound.f k n f t = some r) :
    Calls Tryz.prog 68 #[.agg #[.int .i64 k, .int .i64 n, .int .u64 f, .string t]] w fun e w' => e = .returned (.bool r) ∧ Below w.heap.size w w' := by
  obtain ⟨hn, rfl⟩ := ext_of h
  exact rSound_c k n f t w hn

def xRowSound.f (l : List S64) : Option Bool := if rngL l = true then some (soundL l) else none
theorem xRowSound.calls (A0 : Option Addr) (c0 : Nat) (l : List S64) (r : Bool) (w : World) (hr0 : Kd.C k64 w A0 l.length l) (hc0 : l.length ≤ c0) (h : xRowSound.f l = some r) :
    Calls Tryz.prog 29 #[.slice A0 l.length c0] w fun e w' => e = .returned (.bool r) ∧ Below w.heap.size w w' := by
  obtain ⟨hl, rfl⟩ := ext_of h
  exact rowSound_c A0 c0 l w hr0 (rngL_I hl)

def xRowCompare.f (l m : List S64) : Option Int := if rngL l = true ∧ rngL m = true then some (cmpLS l m) else none
theorem xRowCompare.calls (A0 : Option Addr) (c0 : Nat) (l : List S64) (A1 : Option Addr) (c1 : Nat) (m : List S64) (r : Int) (w : World) (hr0 : Kd.C k64 w A0 l.length l) (hc0 : l.length ≤ c0) (hr1 : Kd.C k64 w A1 m.length m) (hc1 : m.length ≤ c1) (h : xRowCompare.f l m = some r) :
    Calls Tryz.prog 31 #[.slice A0 l.length c0, .slice A1 m.length c1] w fun e w' => e = .returned (.int .i64 r) ∧ Below w.heap.size w w' := by
  obtain ⟨⟨hl, hm⟩, rfl⟩ := ext_of h
  exact rowCompare_c A0 A1 c0 c1 l m w hr0 hr1 (rngL_I hl) (rngL_I hm)

def encP (l : List S64) : ByteArray × Int := if soundL l then (bs (encR (l.map toV)), 0) else (⟨#[]⟩, 1)
def xEncode.f (l : List S64) : Option (ByteArray × Int) := if rngL l = true then some (encP l) else none
theorem xEncode.calls (A0 : Option Addr) (c0 : Nat) (l : List S64) (r1 : ByteArray) (r2 : Int) (w : World) (hr0 : Kd.C k64 w A0 l.length l) (hc0 : l.length ≤ c0) (hT : RTab w) (h : xEncode.f l = some (r1, r2)) :
    Calls Tryz.prog 25 #[.slice A0 l.length c0] w fun e w' => e = .returned (.tuple #[.string r1, .int .i64 r2]) ∧ Below w.heap.size w w' := by
  obtain ⟨hl, he⟩ := ext_of h
  unfold encP at he
  cases hs : soundL l
  · rw [hs] at he
    simp only [Bool.false_eq_true, if_false, Prod.mk.injEq] at he
    obtain ⟨rfl, rfl⟩ := he
    exact encode_no A0 c0 l w hr0 (rngL_I hl) hs
  · rw [hs] at he
    simp only [if_true, Prod.mk.injEq] at he
    obtain ⟨rfl, rfl⟩ := he
    exact encode_yes A0 c0 l w hT hr0 (rngL_I hl) (rngL_U hl) hs

def decP (s : ByteArray) : List S64 × Int := match decB s.data.toList with | .ok l => (l.map ofV, 0) | .error c => ([], c)
def xDecode.f (s : ByteArray) : Option (List S64 × Int) := if s.size ≤ 140737488355327 then some (decP s) else none
theorem xDecode.calls (s : ByteArray) (r1 : List S64) (r2 : Int) (w : World) (h : xDecode.f s = some (r1, r2)) :
    Calls Tryz.prog 56 #[.string s] w fun e w' => ∃ v0_ : Value, e = .returned (.tuple #[v0_, .int .i64 r2]) ∧ Kd.R k64 64 w' w.heap.size (fun _ => True) v0_ r1 ∧ Below w.heap.size w w' := by
  obtain ⟨hl, he⟩ := ext_of h
  have hd := decode_c s.data.toList w (by rw [← Lib.size_eq]; exact hl)
  have es : bs s.data.toList = s := rfl
  rw [es] at hd
  refine hd.mono ?_
  intro e w' ho
  unfold decP at he
  cases hr : decB s.data.toList with
  | ok l =>
    rw [hr] at ho he
    simp only [Prod.mk.injEq] at he
    obtain ⟨rfl, rfl⟩ := he
    exact ho
  | error c =>
    rw [hr] at ho he
    simp only [Prod.mk.injEq] at he
    obtain ⟨rfl, rfl⟩ := he
    exact ⟨_, ho.1, Kd.R_nil _ _ _ _ _, ho.2⟩

def xJoin.f (xs : List ByteArray) (sep : ByteArray) : Option ByteArray :=
  if xs.length ≤ 140737488355328 ∧ (Lib.join (xs.map (·.data.toList)) sep.data.toList).length ≤ 140737488355328 then some ⟨(Lib.join (xs.map (·.data.toList)) sep.data.toList).toArray⟩ else none
theorem xJoin.calls (A0 : Option Addr) (c0 : Nat) (l0 : List ByteArray) (sep r : ByteArray) (w : World) (hr0 : Kd.C Kd.string w A0 l0.length l0) (hc0 : l0.length ≤ c0) (h : xJoin.f l0 sep = some r) :
    Calls Tryz.prog 51 #[.slice A0 l0.length c0, .string sep] w fun e w' => e = .returned (.string r) ∧ Below w.heap.size w w' := by
  unfold xJoin.f at h
  split at h
  · rename_i hc
    cases Option.some.inj h
    obtain ⟨h1, h2, h3⟩ := hr0
    match l0, hc, h3, hc0 with
    | [], _, _, _ =>
      refine (Tryz.strings_Join_none A0 c0 sep w).mono ?_
      rintro e w' ⟨rfl, rfl⟩
      exact ⟨rfl, Below.refl _ _⟩
    | x :: t, hc, h3, hc0 =>
      obtain ⟨ad, rfl, hcells⟩ := h3 (by simp)
      have cell : ∀ (j : Nat) y, (x :: t)[j]? = some y → w.cell? (ad.add j) = some (.string y) := by
        intro j y hy
        obtain ⟨c, hl, hK, hcl⟩ := hcells j y hy
        have hK' : c = [.string y] := hK
        subst hK'
        have := hcl 0 (.string y) rfl
        simpa [show Kd.string.sz = 1 from rfl] using this
      have hsp : ad.spot = none := by
        have h0 := cell 0 x rfl
        simp only [Addr.add, if_true] at h0
        unfold World.cell? at h0
        cases hh : ad.spot with
        | none => rfl
        | some k =>
          rw [hh] at h0
          split at h0 <;> simp at h0
      obtain ⟨bk, o, spt⟩ := ad
      simp only at hsp
      subst hsp
      have cell2 : ∀ (j : Nat) y, (x :: t)[j]? = some y → w.cell? ⟨bk, o + j, none⟩ = some (.string y) := by
        intro j y hy
        have := cell j y hy
        unfold Addr.add at this
        split at this
        · subst_vars; simpa using this
        · exact this
      exact Tryz.strings_Join bk o c0 (x :: t) sep w cell2 (World.block_lt_of_cell? w _ (cell2 0 x rfl)) hc.1 hc0 hc.2
  · cases h

end Go.Proofs.YthpkjkcfhipjhaaGreatDoor
