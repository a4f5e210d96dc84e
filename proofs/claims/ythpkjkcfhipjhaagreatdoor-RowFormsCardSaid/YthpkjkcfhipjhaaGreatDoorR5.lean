/- The reader's number and text. -/
import Derived.Test.YthpkjkcfhipjhaaGreatDoorR4
import Derived.Lib.ConvBytes
namespace Go.Proofs.YthpkjkcfhipjhaaGreatDoor
set_option linter.unusedVariables false
set_option linter.unusedSimpArgs false
open Go.RowKit Go.Proofs.YthpkjkcfhipjhaaGreatDoorW.PrintWords Go.Proofs.YthpkjkcfhipjhaaGreatDoorW.PrintLast

set_option maxRecDepth 100000 in
theorem number_short (b : Nat) (l : List UInt8) (w : World) (h : Rd w b l) (hn : l.length < 8) :
    Calls Tryz.prog 105 #[.pointer (some ⟨b, 0, none⟩)] w fun e w' => e = .panicked (flr 3) ∧ w = w' := by
  have HT := hidF (take_short b l 8 8 rfl w h hn (by decide) (by omega))
  go_enter Tryz.func105, Tryz.ntmps105
  go_wp2_with (go_at_call 104; (with_reducible refine HT.out.mono ?_); rintro e w' ⟨rfl, rfl⟩)
  exact ⟨rfl, rfl, rfl⟩

set_option maxRecDepth 100000 in
set_option maxHeartbeats 1000000 in
theorem number_ok (b : Nat) (l : List UInt8) (w : World) (h : Rd w b l) (hn : 8 ≤ l.length) (hl : l.length ≤ 140737488355328) :
    Calls Tryz.prog 105 #[.pointer (some ⟨b, 0, none⟩)] w fun e w' => e = .returned (.int .u64 (numB (l.take 8))) ∧ Rd w' b (l.drop 8) ∧ Fr b w w' := by
  have HT := hidF (take_ok b l 8 8 rfl w h hn hl)
  have h8 : (l.take 8).length = 8 := by rw [List.length_take]; omega
  have hs := bs_size (l.take 8)
  rw [h8] at hs
  generalize l.take 8 = t at *
  go_enter Tryz.func105, Tryz.ntmps105
  go_wp2_with (go_at_call 104; (with_reducible refine HT.out.mono ?_); rintro e w1 ⟨rfl, hR, hF⟩)
  rw [Lib.run_convert_string_bytes w1 9 78 5 (bs t) Tryz.underlying9 Tryz.underlying78 Tryz.underlying5]
  simp only [Result.andThen]
  rw [Oper.upon_value]
  have hB : Below w1.heap.size w1 (Lib.bytesWorld w1 5 (bs t)) := ⟨rfl, rfl, rfl, by rw [Lib.bytesWorld_size]; omega, fun k hk => Lib.bytesWorld_at_old w1 5 (bs t) k hk⟩
  have hC : ∀ j : Nat, j < 8 → (Lib.bytesWorld w1 5 (bs t)).cell? ⟨w1.heap.size, j, none⟩ = some (.int .u8 (t.getD j 0).toNat) := fun j hj => Lib.bytesWorld_cell w1 5 (bs t) j (by rw [hs]; exact hj)
  have HC := hidF hC
  clear hC
  rw [hs]
  generalize Lib.bytesWorld w1 5 (bs t) = W at *
  generalize grownCap w1 8 0 5 = cp
  go_wp2
  go_loop [3, 10] (fun n i => ∃ k : Nat, k ≤ 8 ∧ i = .int .i64 k ∧ n = .int .u64 (numB (t.take k))) (fun _ i => 8 - (intOf i).toNat)
  case atStart => exact ⟨0, by omega, rfl, rfl⟩
  case round =>
    obtain ⟨k, hk, rfl, rfl⟩ := hrel
    by_cases hlt : k < 8
    · have hc := HC.out k hlt
      have hN : numB (t.take k) < 72057594037927936 := by
        have h1 := numB_lt (t.take k)
        have h2 : 256 ^ (t.take k).length ≤ 256 ^ 7 := Nat.pow_le_pow_right (by decide) (by rw [List.length_take]; omega)
        have h3 : (256 : Nat) ^ 7 = 72057594037927936 := by decide
        omega
      have hsn : Hid (numB (t.take (k + 1)) = numB (t.take k) * 256 + (t.getD k 0).toNat) := hidF (by
        have hk' : k < t.length := by omega
        rw [List.take_succ_eq_append_getElem hk', numB_snoc]; simp [hk'])
      have hor : Hid (Go.bits .or .u64 ((numB (t.take k) : Int) * 256) ((t.getD k 0).toNat : Int) = ((numB (t.take k) * 256 + (t.getD k 0).toNat : Nat) : Int)) := hidF (by
        have hb := (t.getD k 0).toNat_lt
        have := u64_or_nat (numB (t.take k) * 256) (t.getD k 0).toNat (by omega) (by omega)
        rw [Int.natCast_mul] at this
        rw [show ((256 : Nat) : Int) = 256 from rfl] at this
        rw [this]
        have h8 := Nat.two_pow_add_eq_or_of_lt (i := 8) (b := (t.getD k 0).toNat) (by omega) (numB (t.take k))
        rw [show (2 ^ 8 : Nat) = 256 from rfl, Nat.mul_comm] at h8
        rw [← h8])
      have hbt := (t.getD k 0).toNat_lt
      generalize (t.getD k 0).toNat = q at *
      generalize numB (t.take k) = N at *
      go_wp2
      go_round
      case rel => exact ⟨k + 1, by omega, by go_num, by rw [hsn.out, hor.out]⟩
      case measure => simp [intOf]; omega
    · have he : k = 8 := by omega
      subst he
      go_wp2
      go_ret
      refine ⟨?_, hR.below hB, hF.add hB⟩
      rw [List.take_of_length_le (by omega)] <;> rfl

end Go.Proofs.YthpkjkcfhipjhaaGreatDoor
