/- Contracts of val's functions in the shape that the printed walks ask. -/
import Derived.Test.YtjnkkjeneomckaaDoorVS
import Derived.Test.YtjnkkjeneomckaaDoorVR1
namespace Go.Proofs.YtjnkkjeneomckaaDoor
set_option linter.unusedVariables false
set_option linter.unusedSimpArgs false
open Go.RowKit

theorem tab_at {w0 W : World} (h : Tab w0) (hb : Below w0.heap.size w0 W) : Tab W := h.below hb
theorem tab_drew {w0 : World} (h : Tab w0) : Tab w0.drew := h.below (Below.refl _ _).drew
theorem tab_drewN {w0 : World} {n : Nat} (h : Tab w0) : Tab (w0.drewN n) := h.below (below_drewN (Below.refl _ _) n)

theorem ext_of {α : Type} {c : Prop} [Decidable c] {x r : α} (h : (if c then some x else none) = some r) : c ∧ x = r := by
  split at h
  · exact ⟨‹_›, Option.some.inj h⟩
  · cases h

def xSound.f (k n f : Int) (t : ByteArray) : Option Bool := if -9223372036854775808 ≤ n ∧ n ≤ 9223372036854775807 then some (soundV k n f t) else none
theorem xSound.calls (k n f : Int) (t : ByteArray) (r : Bool) (w : World) (h : xSound.f k n f t = some r) :
    Calls Tryd.prog 13 #[.agg #[.int .i64 k, .int .i64 n, .int .u64 f, .string t]] w fun e w' => e = .returned (.bool r) ∧ Below w.heap.size w w' := by
  obtain ⟨hn, rfl⟩ := ext_of h
  exact sound_c k n f t w hn

def xCompare.f (k n f : Int) (t : ByteArray) (k' n' f' : Int) (t' : ByteArray) : Option Int := if (-9223372036854775808 ≤ n ∧ n ≤ 9223372036854775807) ∧ (-9223372036854775808 ≤ n' ∧ n' ≤ 9223372036854775807) then some (cmpV k n f t k' n' f' t') else none
theorem xCompare.calls (k n f : Int) (t : ByteArray) (k' n' f' : Int) (t' : ByteArray) (r : Int) (w : World) (h : xCompare.f k n f t k' n' f' t' = some r) :
    Calls Tryd.prog 23 #[.agg #[.int .i64 k, .int .i64 n, .int .u64 f, .string t], .agg #[.int .i64 k', .int .i64 n', .int .u64 f', .string t']] w fun e w' => e = .returned (.int .i64 r) ∧ Below w.heap.size w w' := by
  obtain ⟨⟨hn, hn'⟩, rfl⟩ := ext_of h
  exact compare_c k n f t k' n' f' t' w hn hn'

def xOfFloat.f (b : Int) : Option (Int × Int × Int × ByteArray) := some (3, 0, plainI b, ⟨#[]⟩)
theorem xOfFloat.calls (b : Int) (r1 r2 r3 : Int) (r4 : ByteArray) (w : World) (h : xOfFloat.f b = some (r1, r2, r3, r4)) :
    Calls Tryd.prog 17 #[.int .u64 b] w fun e w' => e = .returned (.agg #[.int .i64 r1, .int .i64 r2, .int .u64 r3, .string r4]) ∧ Below w.heap.size w w' := by
  simp only [xOfFloat.f, Option.some.injEq, Prod.mk.injEq] at h
  obtain ⟨rfl, rfl, rfl, rfl⟩ := h
  exact ofFloat_c b w

def xAwake.f : Option Bool := some true
theorem xAwake.calls (r : Bool) (w : World) (hT : Tab w) (h : xAwake.f = some r) :
    Calls Tryd.prog 10 #[] w fun e w' => e = .returned (.bool r) ∧ Below w.heap.size w w' := by
  cases Option.some.inj h
  exact awake_c w hT

def xOne.f (code kind k n f : Int) (t : ByteArray) : Option (Int × Int × Int × ByteArray × Int) :=
  if -9223372036854775808 ≤ n ∧ n ≤ 9223372036854775807 then some ((resV (oneS code kind k n f t)).1.k, (resV (oneS code kind k n f t)).1.n, (resV (oneS code kind k n f t)).1.f, (resV (oneS code kind k n f t)).1.t, (resV (oneS code kind k n f t)).2) else none
theorem xOne.calls (code kind k n f : Int) (t : ByteArray) (r1 r2 r3 : Int) (r4 : ByteArray) (r5 : Int) (w : World) (hT : Tab w) (h : xOne.f code kind k n f t = some (r1, r2, r3, r4, r5)) :
    Calls Tryd.prog 25 #[.int .i64 code, .int .i64 kind, .agg #[.int .i64 k, .int .i64 n, .int .u64 f, .string t]] w fun e w' => e = .returned (.tuple #[.agg #[.int .i64 r1, .int .i64 r2, .int .u64 r3, .string r4], .int .i64 r5]) ∧ Below w.heap.size w w' := by
  obtain ⟨hn, he⟩ := ext_of h
  simp only [Prod.mk.injEq] at he
  obtain ⟨rfl, rfl, rfl, rfl, rfl⟩ := he
  exact oneD_c code kind k n f t w hn hT

def xTwo.f (code k n f : Int) (t : ByteArray) (k' n' f' : Int) (t' : ByteArray) : Option (Int × Int × Int × ByteArray × Int) :=
  if (-9223372036854775808 ≤ n ∧ n ≤ 9223372036854775807) ∧ (-9223372036854775808 ≤ n' ∧ n' ≤ 9223372036854775807) then
    some ((resV (twoS code k n f t k' n' f' t')).1.k, (resV (twoS code k n f t k' n' f' t')).1.n, (resV (twoS code k n f t k' n' f' t')).1.f, (resV (twoS code k n f t k' n' f' t')).1.t, (resV (twoS code k n f t k' n' f' t')).2) else none
theorem xTwo.calls (code k n f : Int) (t : ByteArray) (k' n' f' : Int) (t' : ByteArray) (r1 r2 r3 : Int) (r4 : ByteArray) (r5 : Int) (w : World) (h : xTwo.f code k n f t k' n' f' t' = some (r1, r2, r3, r4, r5)) :
    Calls Tryd.prog 26 #[.int .i64 code, .agg #[.int .i64 k, .int .i64 n, .int .u64 f, .string t], .agg #[.int .i64 k', .int .i64 n', .int .u64 f', .string t']] w fun e w' => e = .returned (.tuple #[.agg #[.int .i64 r1, .int .i64 r2, .int .u64 r3, .string r4], .int .i64 r5]) ∧ Below w.heap.size w w' := by
  obtain ⟨⟨hn, hn'⟩, he⟩ := ext_of h
  simp only [Prod.mk.injEq] at he
  obtain ⟨rfl, rfl, rfl, rfl, rfl⟩ := he
  exact twoD_c code k n f t k' n' f' t' w hn hn'

def xrSound.f (k n f : Int) (t : ByteArray) : Option Bool := if 0 ≤ f ∧ f < 18446744073709551616 then some (soundV k n f t) else none
theorem xrSound.calls (k n f : Int) (t : ByteArray) (r : Bool) (w : World) (h : xrSound.f k n f t = some r) :
    Calls Tryd.prog 14 #[.agg #[.int .i64 k, .int .i64 n, .int .u64 f, .string t]] w fun e w' => e = .returned (.bool r) ∧ Below w.heap.size w w' := by
  obtain ⟨hn, rfl⟩ := ext_of h
  exact rSound_c k n f t w hn

def xOfBool.f (b : Bool) : Option (Int × Int × Int × ByteArray) := some (1, b2i b, 0, ⟨#[]⟩)
theorem xOfBool.calls (b : Bool) (r1 r2 r3 : Int) (r4 : ByteArray) (w : World) (h : xOfBool.f b = some (r1, r2, r3, r4)) :
    Calls Tryd.prog 21 #[.bool b] w fun e w' => e = .returned (.agg #[.int .i64 r1, .int .i64 r2, .int .u64 r3, .string r4]) ∧ Below w.heap.size w w' := by
  simp only [xOfBool.f, Option.some.injEq, Prod.mk.injEq] at h
  obtain ⟨rfl, rfl, rfl, rfl⟩ := h
  exact ofBool_c b w
def xOfInt.f (n : Int) : Option (Int × Int × Int × ByteArray) := some (2, n, 0, ⟨#[]⟩)
theorem xOfInt.calls (n : Int) (r1 r2 r3 : Int) (r4 : ByteArray) (w : World) (h : xOfInt.f n = some (r1, r2, r3, r4)) :
    Calls Tryd.prog 19 #[.int .i64 n] w fun e w' => e = .returned (.agg #[.int .i64 r1, .int .i64 r2, .int .u64 r3, .string r4]) ∧ Below w.heap.size w w' := by
  simp only [xOfInt.f, Option.some.injEq, Prod.mk.injEq] at h
  obtain ⟨rfl, rfl, rfl, rfl⟩ := h
  exact ofInt_c n w

end Go.Proofs.YtjnkkjeneomckaaDoor
