/- Contracts of lex's functions in the shape that the printed walks ask. -/
import Derived.Test.YtlaafpbhhnehgaaDoorL18
import Derived.Test.YtlaafpbhhnehgaaDoorL19
import Derived.Test.YtlaafpbhhnehgaaDoorL20
namespace Go.Proofs.YtlaafpbhhnehgaaDoor
set_option linter.unusedVariables false
set_option linter.unusedSimpArgs false
open Go.RowKit Go.Proofs.YtlaafpbhhnehgaaDoorW.PrintWords Go.Proofs.YtlaafpbhhnehgaaDoorW.PrintLast PLX

theorem tab_at {w0 W : World} (h : Tab w0) (hb : Below w0.heap.size w0 W) : Tab W := h.below hb
theorem tab_drew {w0 : World} (h : Tab w0) : Tab w0.drew := h.below (Below.refl _ _).drew
theorem tab_drewN {w0 : World} {n : Nat} (h : Tab w0) : Tab (w0.drewN n) := h.below (below_drewN (Below.refl _ _) n)

def scanP (s : ByteArray) : List S34 × Int × Int := if s.size ≤ 65536 then (match scanL 1000 s.size s.data.toList with | .ok l => (l, 0, 0) | .error p => ([], p, 20)) else ([], 0, 20)
def xScan.f (s : ByteArray) : Option (List S34 × Int × Int) := some (scanP s)
theorem xScan.calls (s : ByteArray) (r1 : List S34) (r2 r3 : Int) (w : World) (hT : Tab w) (h : xScan.f s = some (r1, r2, r3)) :
    Calls Tryd.prog 10 #[.string s] w fun e w' => ∃ v0_ : Value, e = .returned (.tuple #[v0_, .int .i64 r2, .int .i64 r3]) ∧ Kd.R k34 34 w' w.heap.size (fun _ => True) v0_ r1 ∧ Below w.heap.size w w' := by
  have h2 := Option.some.inj h
  unfold scanP at h2
  by_cases hs : s.size ≤ 65536
  · rw [if_pos hs] at h2
    refine (scan_c s w hT hs).mono ?_
    intro e w' ho
    cases hr : scanL 1000 s.size s.data.toList with
    | ok l =>
      rw [hr] at ho h2
      simp only [Prod.mk.injEq] at h2
      obtain ⟨rfl, rfl, rfl⟩ := h2
      exact ho
    | error p =>
      rw [hr] at ho h2
      simp only [Prod.mk.injEq] at h2
      obtain ⟨rfl, rfl, rfl⟩ := h2
      exact ⟨_, ho.1, Kd.R_nil _ _ _ _ _, ho.2⟩
  · rw [if_neg hs] at h2
    simp only [Prod.mk.injEq] at h2
    obtain ⟨rfl, rfl, rfl⟩ := h2
    refine (scan_big s w (by omega)).mono ?_
    rintro e w' ⟨rfl, hb⟩
    exact ⟨_, rfl, Kd.R_nil _ _ _ _ _, hb⟩

def xName.f (s : ByteArray) : Option (ByteArray × Int) := some (⟨(nameW s.data.toList).1.toArray⟩, (nameW s.data.toList).2)
theorem xName.calls (s : ByteArray) (r1 : ByteArray) (r2 : Int) (w : World) (hT : Tab w) (h : xName.f s = some (r1, r2)) :
    Calls Tryd.prog 13 #[.string s] w fun e w' => e = .returned (.tuple #[.string r1, .int .i64 r2]) ∧ Below w.heap.size w w' := by
  have h2 := Option.some.inj h
  simp only [Prod.mk.injEq] at h2
  obtain ⟨rfl, rfl⟩ := h2
  exact nameL_c s.data.toList w hT

def xIsWord.f (s : ByteArray) : Option Bool := some (isWd s.data.toList)
theorem xIsWord.calls (s : ByteArray) (r : Bool) (w : World) (hT : Tab w) (h : xIsWord.f s = some r) :
    Calls Tryd.prog 15 #[.string s] w fun e w' => e = .returned (.bool r) ∧ Below w.heap.size w w' := by
  cases Option.some.inj h
  exact isWord_k s w hT

def xQuoted.f (s : ByteArray) (q : Int) : Option ByteArray := if q = 39 ∧ s.size < 4294967281 then some ⟨(quoteL 39 s.data.toList).toArray⟩ else none
theorem xQuoted.calls (s : ByteArray) (q : Int) (r : ByteArray) (w : World) (hT : Tab w) (h : xQuoted.f s q = some r) :
    Calls Tryd.prog 32 #[.string s, .int .u8 q] w fun e w' => e = .returned (.string r) ∧ Below w.heap.size w w' := by
  unfold xQuoted.f at h
  split at h
  · rename_i hc
    obtain ⟨rfl, hs⟩ := hc
    cases Option.some.inj h
    exact quoted_39 s w hT hs
  · cases h

def xJoin.f (xs : List ByteArray) (sep : ByteArray) : Option ByteArray :=
  if xs.length ≤ 140737488355328 ∧ (Lib.join (xs.map (·.data.toList)) sep.data.toList).length ≤ 140737488355328 then some ⟨(Lib.join (xs.map (·.data.toList)) sep.data.toList).toArray⟩ else none
theorem xJoin.calls (A0 : Option Addr) (c0 : Nat) (l0 : List ByteArray) (sep r : ByteArray) (w : World) (hr0 : Kd.C Kd.string w A0 l0.length l0) (hc0 : l0.length ≤ c0) (h : xJoin.f l0 sep = some r) :
    Calls Tryd.prog 40 #[.slice A0 l0.length c0, .string sep] w fun e w' => e = .returned (.string r) ∧ Below w.heap.size w w' := by
  unfold xJoin.f at h
  split at h
  · rename_i hc
    cases Option.some.inj h
    obtain ⟨h1, h2, h3⟩ := hr0
    match l0, hc, h3, hc0 with
    | [], _, _, _ =>
      refine (Tryd.strings_Join_none A0 c0 sep w).mono ?_
      rintro e w' ⟨rfl, rfl⟩
      exact ⟨rfl, Below.refl _ _⟩
    | x :: t, hc, h3, hc0 =>
      obtain ⟨ad, rfl, hcells⟩ := h3 (by simp)
      have cell : ∀ (j : Nat) y, (x :: t)[j]? = some y → w.cell? (ad.add j) = some (.string y) := by
        intro j y hy
        obtain ⟨c, hl, hK, hcl⟩ := hcells j y hy
        have hK' : c = [.string y] := hK
        subst hK'
        have := hcl 0 (.string y) rfl
        simpa [show Kd.string.sz = 1 from rfl] using this
      have hsp : ad.spot = none := by
        have h0 := cell 0 x rfl
        simp only [Addr.add, if_true] at h0
        unfold World.cell? at h0
        cases hh : ad.spot with
        | none => rfl
        | some k =>
          rw [hh] at h0
          split at h0 <;> simp at h0
      obtain ⟨bk, o, spt⟩ := ad
      simp only at hsp
      subst hsp
      have cell2 : ∀ (j : Nat) y, (x :: t)[j]? = some y → w.cell? ⟨bk, o + j, none⟩ = some (.string y) := by
        intro j y hy
        have := cell j y hy
        unfold Addr.add at this
        split at this
        · subst_vars; simpa using this
        · exact this
      exact Tryd.strings_Join bk o c0 (x :: t) sep w cell2 (World.block_lt_of_cell? w _ (cell2 0 x rfl)) hc.1 hc0 hc.2
  · cases h

def xrIsWord.f (s : ByteArray) : Option Bool := if s.size ≤ 140737488355328 then some (isRW s.data.toList) else none
theorem xrIsWord.calls (s : ByteArray) (r : Bool) (w : World) (h : xrIsWord.f s = some r) :
    Calls Tryd.prog 16 #[.string s] w fun e w' => e = .returned (.bool r) ∧ Below w.heap.size w w' := by
  unfold xrIsWord.f at h
  split at h
  · cases Option.some.inj h
    exact rIsWord_c s w (by assumption)
  · cases h

end Go.Proofs.YtlaafpbhhnehgaaDoor
