/- freshetref13.IsWord: the document's answer, walked. -/
import Derived.Test.YtlaafpbhhnehgaaDoorL13
namespace Go.Proofs.YtlaafpbhhnehgaaDoor
set_option linter.unusedVariables false
set_option linter.unusedSimpArgs false
open Go.RowKit

def capB (b : UInt8) : Bool := decide (65 ≤ b.toNat) && decide (b.toNat ≤ 90)
/-- the words with blanks around -/
def wordsT : List UInt8 := 32 :: (wordsText ++ [32])
def searchR (l : List UInt8) : Nat → Nat → Bool
  | 0, _ => false
  | f + 1, i => if i + l.length + 2 ≤ 287 then (if (wordsT.drop i).take (l.length + 2) = 32 :: (l ++ [32]) then true else searchR l f (i + 1)) else false
def isRW (l : List UInt8) : Bool := l.all capB && (decide (0 < l.length) && searchR l 300 0)

theorem wordsT_arr : (⟨wordsT.toArray⟩ : ByteArray).size = 287 := by decide +kernel

theorem litT : (⟨#[32, 65, 76, 76, 32, 65, 78, 68, 32, 65, 83, 32, 65, 83, 67, 32, 66, 79, 79, 76, 32, 66, 89, 32, 67, 65, 83, 84, 32, 67, 79, 65, 76, 69, 83, 67, 69, 32, 67, 79, 85, 78, 84, 32, 67, 82, 69, 65, 84, 69, 32, 67, 82, 79, 83, 83, 32, 68, 69, 76, 69, 84, 69, 32, 68, 69, 83, 67, 32, 68, 73, 83, 84, 73, 78, 67, 84, 32, 68, 82, 79, 80, 32, 69, 88, 67, 69, 80, 84, 32, 69, 88, 73, 83, 84, 83, 32, 70, 65, 76, 83, 69, 32, 70, 76, 79, 65, 84, 32, 70, 82, 79, 77, 32, 71, 82, 79, 85, 80, 32, 72, 65, 86, 73, 78, 71, 32, 73, 78, 32, 73, 78, 78, 69, 82, 32, 73, 78, 83, 69, 82, 84, 32, 73, 78, 84, 32, 73, 78, 84, 69, 82, 83, 69, 67, 84, 32, 73, 78, 84, 79, 32, 73, 83, 32, 74, 79, 73, 78, 32, 76, 69, 70, 84, 32, 76, 73, 77, 73, 84, 32, 77, 65, 88, 32, 77, 73, 78, 32, 78, 79, 84, 32, 78, 85, 76, 76, 32, 79, 78, 32, 79, 82, 32, 79, 82, 68, 69, 82, 32, 82, 69, 67, 85, 82, 83, 73, 86, 69, 32, 83, 69, 76, 69, 67, 84, 32, 83, 69, 84, 32, 83, 85, 77, 32, 84, 65, 66, 76, 69, 32, 84, 69, 88, 84, 32, 84, 82, 85, 69, 32, 85, 78, 73, 79, 78, 32, 85, 80, 68, 65, 84, 69, 32, 86, 65, 76, 85, 69, 83, 32, 86, 73, 69, 87, 32, 87, 72, 69, 82, 69, 32, 87, 73, 84, 72, 32]⟩ : ByteArray) = ⟨wordsT.toArray⟩ := by kernel_rfl
theorem cutT (j n : Nat) : ((⟨#[32, 65, 76, 76, 32, 65, 78, 68, 32, 65, 83, 32, 65, 83, 67, 32, 66, 79, 79, 76, 32, 66, 89, 32, 67, 65, 83, 84, 32, 67, 79, 65, 76, 69, 83, 67, 69, 32, 67, 79, 85, 78, 84, 32, 67, 82, 69, 65, 84, 69, 32, 67, 82, 79, 83, 83, 32, 68, 69, 76, 69, 84, 69, 32, 68, 69, 83, 67, 32, 68, 73, 83, 84, 73, 78, 67, 84, 32, 68, 82, 79, 80, 32, 69, 88, 67, 69, 80, 84, 32, 69, 88, 73, 83, 84, 83, 32, 70, 65, 76, 83, 69, 32, 70, 76, 79, 65, 84, 32, 70, 82, 79, 77, 32, 71, 82, 79, 85, 80, 32, 72, 65, 86, 73, 78, 71, 32, 73, 78, 32, 73, 78, 78, 69, 82, 32, 73, 78, 83, 69, 82, 84, 32, 73, 78, 84, 32, 73, 78, 84, 69, 82, 83, 69, 67, 84, 32, 73, 78, 84, 79, 32, 73, 83, 32, 74, 79, 73, 78, 32, 76, 69, 70, 84, 32, 76, 73, 77, 73, 84, 32, 77, 65, 88, 32, 77, 73, 78, 32, 78, 79, 84, 32, 78, 85, 76, 76, 32, 79, 78, 32, 79, 82, 32, 79, 82, 68, 69, 82, 32, 82, 69, 67, 85, 82, 83, 73, 86, 69, 32, 83, 69, 76, 69, 67, 84, 32, 83, 69, 84, 32, 83, 85, 77, 32, 84, 65, 66, 76, 69, 32, 84, 69, 88, 84, 32, 84, 82, 85, 69, 32, 85, 78, 73, 79, 78, 32, 85, 80, 68, 65, 84, 69, 32, 86, 65, 76, 85, 69, 83, 32, 86, 73, 69, 87, 32, 87, 72, 69, 82, 69, 32, 87, 73, 84, 72, 32]⟩ : ByteArray).extract j (j + n + 2)).toList = (wordsT.drop j).take (n + 2) := by
  rw [litT, Lib.extract_toList, show j + n + 2 - j = n + 2 by omega]

set_option maxRecDepth 1000000 in
set_option maxHeartbeats 8000000 in
theorem rIsWord_c (s : ByteArray) (w : World) (hs : s.size ≤ 140737488355328) :
    Calls Tryd.prog 16 #[.string s] w fun e w' => e = .returned (.bool (isRW s.data.toList)) ∧ Below w.heap.size w w' := by
  obtain ⟨R, hR⟩ : ∃ R, isRW s.data.toList = R := ⟨_, rfl⟩
  rw [hR]
  go_enter Tryd.func16, Tryd.ntmps16
  go_wp2
  go_loopw [3] (fun v wr => ∃ i : Nat, v = .int .i64 i ∧ i ≤ s.size ∧ Below w.heap.size w wr ∧ R = ((s.data.toList.drop i).all capB && (decide (0 < s.data.toList.length) && searchR s.data.toList 300 0))) (fun v _ => s.size - (intOf v).toNat)
  case atStart => exact ⟨0, rfl, by omega, Below.refl _ _, by rw [← hR]; rfl⟩
  case round =>
    obtain ⟨i, rfl, hi, HB, hr⟩ := hrel
    by_cases hlt : i < s.size
    · rw [get_lt hlt, List.all_cons] at hr
      have hx := (s[i]).toNat_lt
      by_cases hc : 65 ≤ (s[i]).toNat ∧ (s[i]).toNat ≤ 90
      · have hcap : capB s[i] = true := by unfold capB; simp; omega
        rw [hcap, Bool.true_and] at hr
        have h1 : decide (((s[i]).toNat : Int) < 65) = false := decide_eq_false (by omega)
        have h2 : decide (90 < ((s[i]).toNat : Int)) = false := decide_eq_false (by omega)
        have HR := hidF hr
        clear hr
        go_wp2
        go_roundw
        case rel => exact ⟨i + 1, by go_num, by omega, HB, HR.out⟩
        case measure => simp [intOf]; omega
      · have hcap : capB s[i] = false := by unfold capB; simp; omega
        rw [hcap] at hr
        simp only [Bool.false_and] at hr
        by_cases hc1 : (s[i]).toNat < 65
        · have h1 : decide (((s[i]).toNat : Int) < 65) = true := decide_eq_true (by omega)
          go_wp2
          go_ret
          exact ⟨by rw [hr]; rfl, HB⟩
        · have h1 : decide (((s[i]).toNat : Int) < 65) = false := decide_eq_false (by omega)
          have h2 : decide (90 < ((s[i]).toNat : Int)) = true := decide_eq_true (by omega)
          go_wp2
          go_ret
          exact ⟨by rw [hr]; rfl, HB⟩
    · have hie : i = s.size := by omega
      rw [hie, List.drop_of_length_le (by rw [← Lib.size_eq]; omega), List.all_nil, Bool.true_and, ← Lib.size_eq] at hr
      have HR := hidF hr
      clear hr
      go_wp2
      go_loopw [4] (fun v wx => ∃ j : Nat, v = .int .i64 j ∧ j ≤ 290 ∧ Below w.heap.size w wx ∧ R = (decide (0 < s.size) && searchR s.data.toList (300 - j) j)) (fun v _ => 300 - (intOf v).toNat)
      case atStart => exact ⟨0, rfl, by omega, HB, HR.out⟩
      case round =>
        obtain ⟨j, rfl, hj, HBj, hrj⟩ := hrel
        obtain ⟨f, hf⟩ : ∃ f, 300 - j = f + 1 := ⟨299 - j, by omega⟩
        rw [hf, searchR, ← Lib.size_eq] at hrj
        by_cases h287 : j + s.size + 2 ≤ 287
        · have d1 : decide ((j : Int) + (s.size : Int) + 2 ≤ 287) = true := decide_eq_true (by omega)
          rw [if_pos h287] at hrj
          by_cases h0 : 0 < s.size
          · have d2 : decide (0 < (s.size : Int)) = true := decide_eq_true (by omega)
            have HRJ := hidF hrj
            clear hrj
            have hcat : ((⟨#[32]⟩ : ByteArray) ++ s ++ ⟨#[32]⟩).toList = 32 :: (s.data.toList ++ [32]) := by
              rw [ByteArray.toList_eq]; simp
            have hcut := cutT j s.size
            go_wp2
            · rename_i hC
              have hC2 : (wordsT.drop j).take (s.size + 2) = 32 :: (s.data.toList ++ [32]) := by simpa using hC
              have hRt : R = true := by rw [HRJ.out, if_pos hC2]; simp [h0]
              go_ret
              exact ⟨by rw [hRt]; rfl, HBj⟩
            · rename_i hC
              have hC2 : ¬ (wordsT.drop j).take (s.size + 2) = 32 :: (s.data.toList ++ [32]) := by simpa using hC
              have hRf := HRJ.out
              rw [if_neg hC2] at hRf
              go_roundw
              case rel => exact ⟨j + 1, by go_num, by omega, HBj, by rw [show 300 - (j + 1) = f by omega]; exact hRf⟩
              case measure => simp [intOf]; omega
          · have d2 : decide (0 < (s.size : Int)) = false := decide_eq_false (by omega)
            have hRf : R = false := by rw [hrj]; simp [h0]
            clear hrj
            go_wp2
            go_ret
            exact ⟨by rw [hRf]; rfl, HBj⟩
        · have d1 : decide ((j : Int) + (s.size : Int) + 2 ≤ 287) = false := decide_eq_false (by omega)
          have hRf : R = false := by rw [hrj, if_neg h287]; simp
          clear hrj
          go_wp2
          go_ret
          exact ⟨by rw [hRf]; rfl, HBj⟩

end Go.Proofs.YtlaafpbhhnehgaaDoor
