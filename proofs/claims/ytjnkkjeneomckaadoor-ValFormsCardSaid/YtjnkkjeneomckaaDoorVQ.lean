/- A text between quotes, as val writes it. -/
import Derived.Test.YtjnkkjeneomckaaDoorV9
import Derived.RegionTactic
import Derived.StillTailTactics
import Derived.Deep.RegionWith
namespace Go.Proofs.YtjnkkjeneomckaaDoor
set_option linter.unusedVariables false
set_option linter.unusedSimpArgs false
open Go.RowKit

def hexL : List UInt8 := [48, 49, 50, 51, 52, 53, 54, 55, 56, 57, 97, 98, 99, 100, 101, 102]
def hexD (n : Nat) : UInt8 := hexL.getD n 0
def oddB (c : UInt8) : Bool := decide (c.toNat < 32) || decide (126 < c.toNat) || c == 92
def escL (c : UInt8) : List UInt8 :=
  if c = 39 then [39, 39] else if oddB c then [92, 120, hexD (c.toNat / 16), hexD (c.toNat % 16)] else [c]
def quotedL (s : List UInt8) : List UInt8 := 39 :: (s.flatMap escL ++ [39])

theorem escL_len (c : UInt8) : (escL c).length ≤ 4 := by
  unfold escL; split <;> (try split) <;> simp
theorem escs_len (s : List UInt8) : (s.flatMap escL).length ≤ 4 * s.length := by
  induction s with
  | nil => simp
  | cons c s ih => simp only [List.flatMap_cons, List.length_append, List.length_cons]; have := escL_len c; omega

theorem take_snoc' (s : ByteArray) (k : Nat) (h : k < s.size) : s.data.toList.take (k + 1) = s.data.toList.take k ++ [s[k]] := by
  rw [List.take_succ_eq_append_getElem (by simpa using h)]; rfl

/-- what the builder holds behind k bytes -/
def partQ (s : ByteArray) (k : Nat) : List UInt8 := 39 :: (s.data.toList.take k).flatMap escL
theorem partQ_len (s : ByteArray) (k : Nat) (h : k ≤ s.size) : (partQ s k).length ≤ 1 + 4 * k := by
  have := escs_len (s.data.toList.take k)
  have h2 : (s.data.toList.take k).length ≤ k := List.length_take_le _ _
  simp only [partQ, List.length_cons]; omega
theorem partQ_succ (s : ByteArray) (k : Nat) (h : k < s.size) : partQ s (k + 1) = partQ s k ++ escL s[k] := by
  unfold partQ
  rw [take_snoc' s k h]; simp

def hexBA : ByteArray := ⟨#[48, 49, 50, 51, 52, 53, 54, 55, 56, 57, 97, 98, 99, 100, 101, 102]⟩
theorem hexBA_get (n : Nat) (h : n < 16) : hexBA.data[n]? = some (hexD n) := by
  have : ∀ n : Fin 16, hexBA.data[n.1]? = some (hexD n.1) := by decide
  exact this ⟨n, h⟩
theorem hexBA_size : hexBA.size = 16 := rfl
theorem idx_hex (n : Nat) (h : n < 16) (m : Int) (hm : m = (n : Int)) (w : World) : (Instr.index 9 (.string ⟨#[48, 49, 50, 51, 52, 53, 54, 55, 56, 57, 97, 98, 99, 100, 101, 102]⟩) (.int .u8 m)).run Tryd.prog w = .ok (.int .u8 (hexD n).toNat) w := by
  have h1 : (⟨#[48, 49, 50, 51, 52, 53, 54, 55, 56, 57, 97, 98, 99, 100, 101, 102]⟩ : ByteArray) = hexBA := rfl
  subst hm
  rw [h1]
  have h2 := hexBA_get n h
  have hz := hexBA_size
  have hlt : n < hexBA.size := by omega
  have hg : hexBA[n] = hexD n := by
    have : hexBA.data[n]? = some hexBA[n] := by rw [Array.getElem?_eq_getElem]; rfl
    rw [this] at h2; exact Option.some.inj h2
  have hlt' : ¬ 16 ≤ n := by omega
  go_simp
  intro hh; exfalso; omega
theorem and15 (c : UInt8) : bits .and .u8 (c.toNat : Int) 15 = (c.toNat : Int) % 16 := by
  have : ∀ c : Fin 256, bits .and .u8 (c.1 : Int) 15 = (c.1 : Int) % 16 := by decide +kernel
  exact this c.toFin

theorem cells_new (w : World) (cs : List UInt8) (T : TypeId) (j : Nat) (u : Value) (h : (Lib.byteCells cs)[j]? = some u) :
    (w.alloc (.cells (Lib.byteCells cs).toArray T)).cell? ((⟨w.heap.size, 0, none⟩ : Addr).add j) = some u := by
  have := Lib.cell_of_heap (heap_alloc_new w (.cells (Lib.byteCells cs).toArray T)) j
  have ha : ((⟨w.heap.size, 0, none⟩ : Addr).add j) = ⟨w.heap.size, j, none⟩ := by
    unfold Addr.add; split
    · subst_vars; rfl
    · simp
  rw [ha, this]; simp only [List.getElem?_toArray, h]

theorem write4_c (B b : Nat) (l : List UInt8) (c1 c2 : UInt8) (w : World) (h : Bld B b l w) (hlen : l.length + 4 ≤ 140737488355328) (hBw : B ≤ w.heap.size) :
    Calls Tryd.prog 54 #[.pointer (some ⟨b, 0, none⟩), .slice (some ⟨w.heap.size, 0, none⟩) 4 4] (w.alloc (.cells #[.int .u8 92, .int .u8 120, .int .u8 c1.toNat, .int .u8 c2.toNat] 5)).drew fun e w' => e = .returned (.tuple #[.int .i64 4, .nilIface]) ∧ Bld B b (l ++ [92, 120, c1, c2]) w' ∧ Below B w w' := by
  have hlt := h.lt
  refine (write_c B b l ⟨w.heap.size, 0, none⟩ 4 4 [92, 120, c1, c2] _ (bld_drew (bld_al h _)) hlen (by simp; omega) rfl (fun j u hj => cells_new w [92, 120, c1, c2] _ j u hj) (by simp; omega)).mono ?_
  rintro e w' ⟨rfl, h1, h2⟩
  exact ⟨rfl, h1, (((Below.refl B w).alloc hBw _).drew).trans h2⟩

set_option maxRecDepth 100000 in
set_option maxHeartbeats 2000000 in
theorem quoted_c (s : ByteArray) (w : World) (hs : s.size ≤ 4096) :
    Calls Tryd.prog 32 #[.string s] w fun e w' => e = .returned (.string ⟨(quotedL s.data.toList).toArray⟩) ∧ Below w.heap.size w w' := by
  have hnew := bld_new w
  go_enter Tryd.func32, Tryd.ntmps32
  go_wp2_with fail
  refine (writeByte_c w.heap.size w.heap.size [] 39 _ hnew (by simp) (by simp)).mono ?_
  rintro e w1 ⟨rfl, h1, hb1⟩
  have hb0 : Below w.heap.size w w1 := (below_box w _).trans hb1
  have hz : w.heap.size < w1.heap.size := by have := hb1.size; simp at this; omega
  clear hnew hb1
  go_wp2_with fail
  go_loopw [9] (fun i wr => ∃ k : Nat, k ≤ s.size ∧ i = .int .i64 k ∧ Bld w.heap.size w.heap.size (partQ s k) wr ∧ Below w.heap.size w wr ∧ w.heap.size < wr.heap.size) (fun i _ => s.size - (intOf i).toNat)
  case atStart => exact ⟨0, Nat.zero_le _, rfl, h1, hb0, hz⟩
  case round =>
    obtain ⟨k, hk, rfl, hB, hBel, hzr⟩ := hrel
    clear h1 hb0 hz
    have hlen := partQ_len s k hk
    by_cases hlt : k < s.size
    · have hsn := Lib.hid (partQ_succ s k hlt)
      have hx1 := fun w => idx_hex (s[k].toNat / 16) (by have := s[k].toNat_lt; omega) ((s[k].toNat : Int) / 16) (by simp) w
      have hx2 := fun w => idx_hex (s[k].toNat % 16) (by omega) ((s[k].toNat : Int) % 16) (by simp) w
      have ha := and15 s[k]
      have hcl : ((s[k].toNat : Int) == 39) = decide (s[k] = 39) := by
        rw [Bool.eq_iff_iff]; simp only [beq_iff_eq, decide_eq_true_eq, ← UInt8.toNat_inj]
        show ((s[k].toNat : Int) = 39) ↔ s[k].toNat = 39
        omega
      have hcb : ((s[k].toNat : Int) == 92) = (s[k] == 92) := by
        rw [Bool.eq_iff_iff]; simp only [beq_iff_eq, ← UInt8.toNat_inj]
        show ((s[k].toNat : Int) = 92) ↔ s[k].toNat = 92
        omega
      have hu := s[k].toNat_lt
      have hi1 : IntKind.i64.wrap ((k : Int) + 1) = (k : Int) + 1 := IntWalk.i64_in _ (by omega)
      by_cases h39 : s[k] = 39
      · have hd : ((s[k].toNat : Int) == 39) = true := by rw [hcl]; simp [h39]
        have he : escL s[k] = [39, 39] := by unfold escL; rw [if_pos h39]
        go_wp2_with (first | (go_at_call 53; refine (writeString_c w.heap.size w.heap.size _ ⟨#[39, 39]⟩ _ hB (by show _ + 2 ≤ _; omega) (by omega)).mono ?_; rintro e w' ⟨rfl, hB2, hb2⟩))
        go_roundw
        case rel => exact ⟨k + 1, by omega, by go_num, by rw [hsn.out, he]; exact hB2, hBel.trans hb2, by have := hb2.size; omega⟩
        case measure => simp [intOf]; omega
      · have hd : ((s[k].toNat : Int) == 39) = false := by rw [hcl]; simp [h39]
        by_cases hodd : oddB s[k] = true
        · have he : escL s[k] = [92, 120, hexD (s[k].toNat / 16), hexD (s[k].toNat % 16)] := by unfold escL; rw [if_neg h39, if_pos hodd]
          have key : (decide ((s[k].toNat : Int) < 32) = true) ∨ (decide ((s[k].toNat : Int) < 32) = false ∧ decide (126 < (s[k].toNat : Int)) = true) ∨ (decide ((s[k].toNat : Int) < 32) = false ∧ decide (126 < (s[k].toNat : Int)) = false ∧ ((s[k].toNat : Int) == 92) = true) := by
            simp only [oddB, Bool.or_eq_true, decide_eq_true_eq] at hodd
            rw [hcb]
            simp only [decide_eq_true_eq, decide_eq_false_iff_not]
            rcases hodd with (h | h) | h
            · left; omega
            · right; left; omega
            · by_cases h1 : s[k].toNat < 32
              · left; omega
              · by_cases h2 : 126 < s[k].toNat
                · right; left; omega
                · right; right; exact ⟨by omega, by omega, h⟩
          clear hodd hcb hcl
          rcases key with h1 | ⟨h1, h2⟩ | ⟨h1, h2, h3⟩ <;> go_wp2_with fail
          all_goals (go_still_tail 6, (by kernel_rfl); change wpList _ _ _ _ _ wr.drew)
          all_goals go_wp2_with (first | (go_at_call 54; (refine (write4_c w.heap.size w.heap.size (partQ s k) (hexD (s[k].toNat / 16)) (hexD (s[k].toNat % 16)) wr hB (by omega) (by omega)).mono ?_); rintro e w' ⟨rfl, hB2, hb2⟩))
          all_goals (go_roundw; (exact ⟨k + 1, by omega, by go_num, (by rw [hsn.out, he]; exact hB2), hBel.trans hb2, (by have := hb2.size; omega)⟩); (simp [intOf]; omega))
        · have he : escL s[k] = [s[k]] := by unfold escL; rw [if_neg h39, if_neg hodd]
          have key : (decide ((s[k].toNat : Int) < 32) = false ∧ decide (126 < (s[k].toNat : Int)) = false ∧ ((s[k].toNat : Int) == 92) = false) := by
            simp only [oddB, Bool.or_eq_true, decide_eq_true_eq, not_or] at hodd
            rw [hcb]
            refine ⟨decide_eq_false (by omega), decide_eq_false (by omega), by simpa using hodd.2⟩
          obtain ⟨h1, h2, h3⟩ := key
          clear hodd hcb hcl
          go_wp2_with (first | (go_at_call 52; refine (writeByte_c w.heap.size w.heap.size _ s[k] _ hB (by omega) (by omega)).mono ?_; rintro e w' ⟨rfl, hB2, hb2⟩))
          go_roundw
          case rel => exact ⟨k + 1, by omega, by go_num, by rw [hsn.out, he]; exact hB2, hBel.trans hb2, by have := hb2.size; omega⟩
          case measure => simp [intOf]; omega
    · have hke : k = s.size := by omega
      subst hke
      go_wp2_with (first | (go_at_call 52; refine (writeByte_c w.heap.size w.heap.size _ 39 _ hB (by omega) (by omega)).mono ?_; rintro e w' ⟨rfl, hB2, hb2⟩) | (go_at_call 55; refine (string_b w.heap.size w.heap.size _ _ hB2 (by have := hb2.size; omega)).mono ?_; rintro e w'' ⟨rfl, hb3⟩))
      refine bodyPost_ret (v := .string ⟨(quotedL s.data.toList).toArray⟩) ?_ rfl ⟨rfl, hBel.trans (hb2.trans hb3)⟩
      have hq : partQ s s.size ++ [39] = quotedL s.data.toList := by
        have : s.data.toList.take s.size = s.data.toList := List.take_of_length_le (by simp)
        simp only [partQ, quotedL, this, List.cons_append]
      simp [results, Tryd.results32, go_sem, hq]

end Go.Proofs.YtjnkkjeneomckaaDoor
