/- freshetref02.number: a value of 8 bytes, as the document says. -/
import Derived.Test.YthpkjkcfhipjhaaDoorR10
import Derived.Test.YthpkjkcfhipjhaaDoorMB
namespace Go.Proofs.YthpkjkcfhipjhaaDoor
set_option linter.unusedVariables false
set_option linter.unusedSimpArgs false
open Go.RowKit Go.Proofs.YthpkjkcfhipjhaaDoorW.PrintWords Go.Proofs.YthpkjkcfhipjhaaDoorW.PrintLast

theorem getB (s : ByteArray) (k : Nat) (h : k < s.size) : s.data.toList.take (k + 1) = s.data.toList.take k ++ [s[k]] := by
  rw [List.take_succ_eq_append_getElem (by simpa using h)]; rfl

theorem and63m (N : Nat) (h1 : 9223372036854775808 ≤ N) (h : N < 18446744073709551616) : Go.bits .and .u64 (N : Int) 9223372036854775807 = (N : Int) - 9223372036854775808 := by
  have e := u64_and_nat N 9223372036854775807 h (by decide)
  rw [show ((9223372036854775807 : Nat) : Int) = 9223372036854775807 from rfl] at e
  have e2 : (9223372036854775807 : Nat) = 2 ^ 63 - 1 := by decide
  rw [e, e2, Nat.and_two_pow_sub_one_eq_mod]; omega

/-- what number answers -/
def OutN (x : V) (w : World) (e : Ending) (w' : World) : Prop :=
  e = .returned (.tuple (if sV x then #[.agg #[.int .i64 x.k, .int .i64 x.n, .int .u64 x.f, .string x.t], .int .i64 0] else #[.agg #[.int .i64 0, .int .i64 0, .int .u64 0, .string ⟨#[]⟩], .int .i64 4])) ∧ Below w.heap.size w w'

set_option maxRecDepth 100000 in
set_option maxHeartbeats 2000000 in
theorem rnum_3 (s : ByteArray) (w : World) (h8 : s.size = 8) :
    Calls Tryd.prog 50 #[.int .i64 3, .string s] w (OutN (ofWord 3 (numB s.data.toList)) w) := by
  go_enter Tryd.func50, Tryd.ntmps50
  go_wp2
  go_loop [6, 7] (fun n i => ∃ k : Nat, k ≤ 8 ∧ i = .int .i64 k ∧ n = .int .u64 (numB (s.data.toList.take k))) (fun _ i => 8 - (intOf i).toNat)
  case atStart => exact ⟨0, by omega, rfl, rfl⟩
  case round =>
    obtain ⟨k, hk, rfl, rfl⟩ := hrel
    by_cases hlt : k < 8
    · have hks : k < s.size := by omega
      have hN : numB (s.data.toList.take k) < 72057594037927936 := by
        have h1 := numB_lt (s.data.toList.take k)
        have h2 : 256 ^ (s.data.toList.take k).length ≤ 256 ^ 7 := Nat.pow_le_pow_right (by decide) (by rw [List.length_take]; omega)
        have h3 : (256 : Nat) ^ 7 = 72057594037927936 := by decide
        omega
      have hsn : Hid (numB (s.data.toList.take (k + 1)) = numB (s.data.toList.take k) * 256 + s[k].toNat) := hidF (by rw [getB s k hks, numB_snoc])
      have hor : Hid (Go.bits .or .u64 ((numB (s.data.toList.take k) : Int) * 256) (s[k].toNat : Int) = ((numB (s.data.toList.take k) * 256 + s[k].toNat : Nat) : Int)) := hidF (by
        have hb := s[k].toNat_lt
        have := u64_or_nat (numB (s.data.toList.take k) * 256) s[k].toNat (by omega) (by omega)
        rw [Int.natCast_mul] at this
        rw [show ((256 : Nat) : Int) = 256 from rfl] at this
        rw [this]
        have h8 := Nat.two_pow_add_eq_or_of_lt (i := 8) (b := s[k].toNat) (by omega) (numB (s.data.toList.take k))
        rw [show (2 ^ 8 : Nat) = 256 from rfl, Nat.mul_comm] at h8
        rw [← h8])
      have hbt := s[k].toNat_lt
      generalize numB (s.data.toList.take k) = N at *
      go_wp2
      go_round
      case rel => exact ⟨k + 1, by omega, by go_num, by rw [hsn.out, hor.out]⟩
      case measure => simp [intOf]; omega
    · have he : k = 8 := by omega
      subst he
      have hT : s.data.toList.take 8 = s.data.toList := List.take_of_length_le (by rw [← Lib.size_eq]; omega)
      rw [hT]
      have hN := numB_lt s.data.toList
      rw [← Lib.size_eq, h8, show 256 ^ 8 = 18446744073709551616 by decide] at hN
      generalize numB s.data.toList = N at *
      clear hT
      have hU : U64 (backI (N : Int)) := by unfold backI U64; split <;> omega
      have hof : ofWord 3 N = ⟨3, 0, backI N, ⟨#[]⟩⟩ := rfl
      have HS := hidF (fun W => rSound_c 3 0 (backI N) ⟨#[]⟩ W hU)
      by_cases h63 : 9223372036854775808 ≤ N
      · have hdv : ((N : Int) / 9223372036854775808 == 1) = true := by rw [beq_iff_eq]; omega
        have hm : backI N = Go.bits .and .u64 (N : Int) 9223372036854775807 := by rw [and63m N h63 hN]; unfold backI; rw [if_pos (by omega)]
        rw [hm] at HS hU hof
        have HO := hidF hof
        clear hm hof
        cases hsv : soundV 3 0 (Go.bits .and .u64 (N : Int) 9223372036854775807) ⟨#[]⟩
        · rw [hsv] at HS
          have HV := hidF hsv
          clear hsv
          go_wp2_with fail
          (with_reducible refine (HS.out _).mono ?_)
          rintro e w2 ⟨rfl, hb⟩
          obtain ⟨a0, a1, a2, a3, b0, b1, b2, b3⟩ := ((Bx.new w 0 0 0 ⟨#[]⟩ 56).al _).below hb
          obtain ⟨d0, d1, d2, d3, e0, e1, e2, e3⟩ : Bx w2 (w.heap.size + 1) 3 0 (Go.bits .and .u64 (N : Int) 9223372036854775807) ⟨#[]⟩ := by
            have h := (Bx.new (w.alloc (.cells #[.int .i64 0, .int .i64 0, .int .u64 0, .string ⟨#[]⟩] 56)) 3 0 (Go.bits .and .u64 (N : Int) 9223372036854775807) ⟨#[]⟩ 56).below hb
            simpa using h
          have hs2 := hb.size
          simp at hs2
          have z0 : w.heap.size < w2.heap.size := by omega
          have z1 : w.heap.size + 1 < w2.heap.size := by omega
          go_wp2_with fail
          refine bodyPost_ret (v := .tuple #[.agg #[.int .i64 0, .int .i64 0, .int .u64 0, .string ⟨#[]⟩], .int .i64 4]) (by simp [results, Tryd.results50, go_sem, *]) rfl ?_
          unfold OutN
          rw [HO.out, show sV ⟨3, 0, (Go.bits .and .u64 (N : Int) 9223372036854775807), ⟨#[]⟩⟩ = false from HV.out]
          exact ⟨rfl, (by repeat (first | (with_reducible exact Below.refl _ _) | (with_reducible refine below_al ?_ _) | (with_reducible refine below_drewN ?_ _) | (with_reducible refine Below.drew ?_) | (with_reducible refine below_via (by assumption) ?_) | (with_reducible refine below_sc ?_ ?_ _; · (first | (simp; done) | (simp; omega) | omega))))⟩
        · rw [hsv] at HS
          have HV := hidF hsv
          clear hsv
          go_wp2_with fail
          (with_reducible refine (HS.out _).mono ?_)
          rintro e w2 ⟨rfl, hb⟩
          obtain ⟨a0, a1, a2, a3, b0, b1, b2, b3⟩ := ((Bx.new w 0 0 0 ⟨#[]⟩ 56).al _).below hb
          obtain ⟨d0, d1, d2, d3, e0, e1, e2, e3⟩ : Bx w2 (w.heap.size + 1) 3 0 (Go.bits .and .u64 (N : Int) 9223372036854775807) ⟨#[]⟩ := by
            have h := (Bx.new (w.alloc (.cells #[.int .i64 0, .int .i64 0, .int .u64 0, .string ⟨#[]⟩] 56)) 3 0 (Go.bits .and .u64 (N : Int) 9223372036854775807) ⟨#[]⟩ 56).below hb
            simpa using h
          have hs2 := hb.size
          simp at hs2
          have z0 : w.heap.size < w2.heap.size := by omega
          have z1 : w.heap.size + 1 < w2.heap.size := by omega
          go_wp2_with fail
          refine bodyPost_ret (v := .tuple #[.agg #[.int .i64 3, .int .i64 0, .int .u64 (Go.bits .and .u64 (N : Int) 9223372036854775807), .string ⟨#[]⟩], .int .i64 0]) (by simp [results, Tryd.results50, go_sem, *]) rfl ?_
          unfold OutN
          rw [HO.out, show sV ⟨3, 0, (Go.bits .and .u64 (N : Int) 9223372036854775807), ⟨#[]⟩⟩ = true from HV.out]
          exact ⟨rfl, (by repeat (first | (with_reducible exact Below.refl _ _) | (with_reducible refine below_al ?_ _) | (with_reducible refine below_drewN ?_ _) | (with_reducible refine Below.drew ?_) | (with_reducible refine below_via (by assumption) ?_) | (with_reducible refine below_sc ?_ ?_ _; · (first | (simp; done) | (simp; omega) | omega))))⟩
      · have hdv : ((N : Int) / 9223372036854775808 == 1) = false := by rw [beq_eq_false_iff_ne]; omega
        have hm : backI N = Go.bits .xor .u64 IntKind.u64.max (N : Int) := by rw [xor_max (N : Int) ⟨by omega, by omega⟩]; unfold backI; rw [if_neg (by omega)]
        rw [hm] at HS hU hof
        have HO := hidF hof
        clear hm hof
        cases hsv : soundV 3 0 (Go.bits .xor .u64 IntKind.u64.max (N : Int)) ⟨#[]⟩
        · rw [hsv] at HS
          have HV := hidF hsv
          clear hsv
          go_wp2_with fail
          (with_reducible refine (HS.out _).mono ?_)
          rintro e w2 ⟨rfl, hb⟩
          obtain ⟨a0, a1, a2, a3, b0, b1, b2, b3⟩ := ((Bx.new w 0 0 0 ⟨#[]⟩ 56).al _).below hb
          obtain ⟨d0, d1, d2, d3, e0, e1, e2, e3⟩ : Bx w2 (w.heap.size + 1) 3 0 (Go.bits .xor .u64 IntKind.u64.max (N : Int)) ⟨#[]⟩ := by
            have h := (Bx.new (w.alloc (.cells #[.int .i64 0, .int .i64 0, .int .u64 0, .string ⟨#[]⟩] 56)) 3 0 (Go.bits .xor .u64 IntKind.u64.max (N : Int)) ⟨#[]⟩ 56).below hb
            simpa using h
          have hs2 := hb.size
          simp at hs2
          have z0 : w.heap.size < w2.heap.size := by omega
          have z1 : w.heap.size + 1 < w2.heap.size := by omega
          go_wp2_with fail
          refine bodyPost_ret (v := .tuple #[.agg #[.int .i64 0, .int .i64 0, .int .u64 0, .string ⟨#[]⟩], .int .i64 4]) (by simp [results, Tryd.results50, go_sem, *]) rfl ?_
          unfold OutN
          rw [HO.out, show sV ⟨3, 0, (Go.bits .xor .u64 IntKind.u64.max (N : Int)), ⟨#[]⟩⟩ = false from HV.out]
          exact ⟨rfl, (by repeat (first | (with_reducible exact Below.refl _ _) | (with_reducible refine below_al ?_ _) | (with_reducible refine below_drewN ?_ _) | (with_reducible refine Below.drew ?_) | (with_reducible refine below_via (by assumption) ?_) | (with_reducible refine below_sc ?_ ?_ _; · (first | (simp; done) | (simp; omega) | omega))))⟩
        · rw [hsv] at HS
          have HV := hidF hsv
          clear hsv
          go_wp2_with fail
          (with_reducible refine (HS.out _).mono ?_)
          rintro e w2 ⟨rfl, hb⟩
          obtain ⟨a0, a1, a2, a3, b0, b1, b2, b3⟩ := ((Bx.new w 0 0 0 ⟨#[]⟩ 56).al _).below hb
          obtain ⟨d0, d1, d2, d3, e0, e1, e2, e3⟩ : Bx w2 (w.heap.size + 1) 3 0 (Go.bits .xor .u64 IntKind.u64.max (N : Int)) ⟨#[]⟩ := by
            have h := (Bx.new (w.alloc (.cells #[.int .i64 0, .int .i64 0, .int .u64 0, .string ⟨#[]⟩] 56)) 3 0 (Go.bits .xor .u64 IntKind.u64.max (N : Int)) ⟨#[]⟩ 56).below hb
            simpa using h
          have hs2 := hb.size
          simp at hs2
          have z0 : w.heap.size < w2.heap.size := by omega
          have z1 : w.heap.size + 1 < w2.heap.size := by omega
          go_wp2_with fail
          refine bodyPost_ret (v := .tuple #[.agg #[.int .i64 3, .int .i64 0, .int .u64 (Go.bits .xor .u64 IntKind.u64.max (N : Int)), .string ⟨#[]⟩], .int .i64 0]) (by simp [results, Tryd.results50, go_sem, *]) rfl ?_
          unfold OutN
          rw [HO.out, show sV ⟨3, 0, (Go.bits .xor .u64 IntKind.u64.max (N : Int)), ⟨#[]⟩⟩ = true from HV.out]
          exact ⟨rfl, (by repeat (first | (with_reducible exact Below.refl _ _) | (with_reducible refine below_al ?_ _) | (with_reducible refine below_drewN ?_ _) | (with_reducible refine Below.drew ?_) | (with_reducible refine below_via (by assumption) ?_) | (with_reducible refine below_sc ?_ ?_ _; · (first | (simp; done) | (simp; omega) | omega))))⟩

set_option maxRecDepth 100000 in
set_option maxHeartbeats 2000000 in
theorem rnum_1 (s : ByteArray) (w : World) (h8 : s.size = 8) :
    Calls Tryd.prog 50 #[.int .i64 1, .string s] w (OutN (ofWord 1 (numB s.data.toList)) w) := by
  go_enter Tryd.func50, Tryd.ntmps50
  go_wp2
  go_loop [6, 7] (fun n i => ∃ k : Nat, k ≤ 8 ∧ i = .int .i64 k ∧ n = .int .u64 (numB (s.data.toList.take k))) (fun _ i => 8 - (intOf i).toNat)
  case atStart => exact ⟨0, by omega, rfl, rfl⟩
  case round =>
    obtain ⟨k, hk, rfl, rfl⟩ := hrel
    by_cases hlt : k < 8
    · have hks : k < s.size := by omega
      have hN : numB (s.data.toList.take k) < 72057594037927936 := by
        have h1 := numB_lt (s.data.toList.take k)
        have h2 : 256 ^ (s.data.toList.take k).length ≤ 256 ^ 7 := Nat.pow_le_pow_right (by decide) (by rw [List.length_take]; omega)
        have h3 : (256 : Nat) ^ 7 = 72057594037927936 := by decide
        omega
      have hsn : Hid (numB (s.data.toList.take (k + 1)) = numB (s.data.toList.take k) * 256 + s[k].toNat) := hidF (by rw [getB s k hks, numB_snoc])
      have hor : Hid (Go.bits .or .u64 ((numB (s.data.toList.take k) : Int) * 256) (s[k].toNat : Int) = ((numB (s.data.toList.take k) * 256 + s[k].toNat : Nat) : Int)) := hidF (by
        have hb := s[k].toNat_lt
        have := u64_or_nat (numB (s.data.toList.take k) * 256) s[k].toNat (by omega) (by omega)
        rw [Int.natCast_mul] at this
        rw [show ((256 : Nat) : Int) = 256 from rfl] at this
        rw [this]
        have h8 := Nat.two_pow_add_eq_or_of_lt (i := 8) (b := s[k].toNat) (by omega) (numB (s.data.toList.take k))
        rw [show (2 ^ 8 : Nat) = 256 from rfl, Nat.mul_comm] at h8
        rw [← h8])
      have hbt := s[k].toNat_lt
      generalize numB (s.data.toList.take k) = N at *
      go_wp2
      go_round
      case rel => exact ⟨k + 1, by omega, by go_num, by rw [hsn.out, hor.out]⟩
      case measure => simp [intOf]; omega
    · have he : k = 8 := by omega
      subst he
      have hT : s.data.toList.take 8 = s.data.toList := List.take_of_length_le (by rw [← Lib.size_eq]; omega)
      rw [hT]
      have hN := numB_lt s.data.toList
      rw [← Lib.size_eq, h8, show 256 ^ 8 = 18446744073709551616 by decide] at hN
      generalize numB s.data.toList = N at *
      clear hT
      have hof : ofWord 1 N = ⟨1, (N : Int) - 9223372036854775808, 0, ⟨#[]⟩⟩ := rfl
      have HS := hidF (fun W => rSound_c 1 ((N : Int) - 9223372036854775808) 0 ⟨#[]⟩ W (by constructor <;> decide))
      have hm : IntKind.i64.wrap (IntKind.u64.wrap ((N : Int) - 9223372036854775808)) = (N : Int) - 9223372036854775808 := by rw [IntKind.wrap_u64, IntKind.wrap_i64]; omega
      have hm2 : wrap64 (IntKind.u64.wrap ((N : Int) - 9223372036854775808)) = (N : Int) - 9223372036854775808 := by rw [IntKind.wrap_u64]; unfold wrap64; omega
      have HO := hidF hof
      clear hof
      cases hsv : soundV 1 ((N : Int) - 9223372036854775808) 0 ⟨#[]⟩
      all_goals
        rw [hsv] at HS
        have HV := hidF hsv
        clear hsv
        go_wp2_with fail
        (with_reducible refine (HS.out _).mono ?_)
        rintro e w2 ⟨rfl, hb⟩
        obtain ⟨a0, a1, a2, a3, b0, b1, b2, b3⟩ := ((Bx.new w 0 0 0 ⟨#[]⟩ 56).al _).below hb
        obtain ⟨d0, d1, d2, d3, e0, e1, e2, e3⟩ : Bx w2 (w.heap.size + 1) 1 ((N : Int) - 9223372036854775808) 0 ⟨#[]⟩ := by
          have h := (Bx.new (w.alloc (.cells #[.int .i64 0, .int .i64 0, .int .u64 0, .string ⟨#[]⟩] 56)) 1 ((N : Int) - 9223372036854775808) 0 ⟨#[]⟩ 56).below hb
          simpa using h
        have hs2 := hb.size
        simp at hs2
        have z0 : w.heap.size < w2.heap.size := by omega
        have z1 : w.heap.size + 1 < w2.heap.size := by omega
        go_wp2_with fail
      · refine bodyPost_ret (v := .tuple #[.agg #[.int .i64 0, .int .i64 0, .int .u64 0, .string ⟨#[]⟩], .int .i64 4]) (by simp [results, Tryd.results50, go_sem, *]) rfl ?_
        unfold OutN
        rw [HO.out, show sV ⟨1, (N : Int) - 9223372036854775808, 0, ⟨#[]⟩⟩ = false from HV.out]
        exact ⟨rfl, (by repeat (first | (with_reducible exact Below.refl _ _) | (with_reducible refine below_al ?_ _) | (with_reducible refine below_drewN ?_ _) | (with_reducible refine Below.drew ?_) | (with_reducible refine below_via (by assumption) ?_) | (with_reducible refine below_sc ?_ ?_ _; · (first | (simp; done) | (simp; omega) | omega))))⟩
      · refine bodyPost_ret (v := .tuple #[.agg #[.int .i64 1, .int .i64 ((N : Int) - 9223372036854775808), .int .u64 0, .string ⟨#[]⟩], .int .i64 0]) (by simp [results, Tryd.results50, go_sem, *]) rfl ?_
        unfold OutN
        rw [HO.out, show sV ⟨1, (N : Int) - 9223372036854775808, 0, ⟨#[]⟩⟩ = true from HV.out]
        exact ⟨rfl, (by repeat (first | (with_reducible exact Below.refl _ _) | (with_reducible refine below_al ?_ _) | (with_reducible refine below_drewN ?_ _) | (with_reducible refine Below.drew ?_) | (with_reducible refine below_via (by assumption) ?_) | (with_reducible refine below_sc ?_ ?_ _; · (first | (simp; done) | (simp; omega) | omega))))⟩

set_option maxRecDepth 100000 in
set_option maxHeartbeats 2000000 in
theorem rnum_2 (s : ByteArray) (w : World) (h8 : s.size = 8) :
    Calls Tryd.prog 50 #[.int .i64 2, .string s] w (OutN (ofWord 2 (numB s.data.toList)) w) := by
  go_enter Tryd.func50, Tryd.ntmps50
  go_wp2
  go_loop [6, 7] (fun n i => ∃ k : Nat, k ≤ 8 ∧ i = .int .i64 k ∧ n = .int .u64 (numB (s.data.toList.take k))) (fun _ i => 8 - (intOf i).toNat)
  case atStart => exact ⟨0, by omega, rfl, rfl⟩
  case round =>
    obtain ⟨k, hk, rfl, rfl⟩ := hrel
    by_cases hlt : k < 8
    · have hks : k < s.size := by omega
      have hN : numB (s.data.toList.take k) < 72057594037927936 := by
        have h1 := numB_lt (s.data.toList.take k)
        have h2 : 256 ^ (s.data.toList.take k).length ≤ 256 ^ 7 := Nat.pow_le_pow_right (by decide) (by rw [List.length_take]; omega)
        have h3 : (256 : Nat) ^ 7 = 72057594037927936 := by decide
        omega
      have hsn : Hid (numB (s.data.toList.take (k + 1)) = numB (s.data.toList.take k) * 256 + s[k].toNat) := hidF (by rw [getB s k hks, numB_snoc])
      have hor : Hid (Go.bits .or .u64 ((numB (s.data.toList.take k) : Int) * 256) (s[k].toNat : Int) = ((numB (s.data.toList.take k) * 256 + s[k].toNat : Nat) : Int)) := hidF (by
        have hb := s[k].toNat_lt
        have := u64_or_nat (numB (s.data.toList.take k) * 256) s[k].toNat (by omega) (by omega)
        rw [Int.natCast_mul] at this
        rw [show ((256 : Nat) : Int) = 256 from rfl] at this
        rw [this]
        have h8 := Nat.two_pow_add_eq_or_of_lt (i := 8) (b := s[k].toNat) (by omega) (numB (s.data.toList.take k))
        rw [show (2 ^ 8 : Nat) = 256 from rfl, Nat.mul_comm] at h8
        rw [← h8])
      have hbt := s[k].toNat_lt
      generalize numB (s.data.toList.take k) = N at *
      go_wp2
      go_round
      case rel => exact ⟨k + 1, by omega, by go_num, by rw [hsn.out, hor.out]⟩
      case measure => simp [intOf]; omega
    · have he : k = 8 := by omega
      subst he
      have hT : s.data.toList.take 8 = s.data.toList := List.take_of_length_le (by rw [← Lib.size_eq]; omega)
      rw [hT]
      have hN := numB_lt s.data.toList
      rw [← Lib.size_eq, h8, show 256 ^ 8 = 18446744073709551616 by decide] at hN
      generalize numB s.data.toList = N at *
      clear hT
      have hof : ofWord 2 N = ⟨2, (N : Int) - 9223372036854775808, 0, ⟨#[]⟩⟩ := rfl
      have HS := hidF (fun W => rSound_c 2 ((N : Int) - 9223372036854775808) 0 ⟨#[]⟩ W (by constructor <;> decide))
      have hm : IntKind.i64.wrap (IntKind.u64.wrap ((N : Int) - 9223372036854775808)) = (N : Int) - 9223372036854775808 := by rw [IntKind.wrap_u64, IntKind.wrap_i64]; omega
      have hm2 : wrap64 (IntKind.u64.wrap ((N : Int) - 9223372036854775808)) = (N : Int) - 9223372036854775808 := by rw [IntKind.wrap_u64]; unfold wrap64; omega
      have HO := hidF hof
      clear hof
      cases hsv : soundV 2 ((N : Int) - 9223372036854775808) 0 ⟨#[]⟩
      all_goals
        rw [hsv] at HS
        have HV := hidF hsv
        clear hsv
        go_wp2_with fail
        (with_reducible refine (HS.out _).mono ?_)
        rintro e w2 ⟨rfl, hb⟩
        obtain ⟨a0, a1, a2, a3, b0, b1, b2, b3⟩ := ((Bx.new w 0 0 0 ⟨#[]⟩ 56).al _).below hb
        obtain ⟨d0, d1, d2, d3, e0, e1, e2, e3⟩ : Bx w2 (w.heap.size + 1) 2 ((N : Int) - 9223372036854775808) 0 ⟨#[]⟩ := by
          have h := (Bx.new (w.alloc (.cells #[.int .i64 0, .int .i64 0, .int .u64 0, .string ⟨#[]⟩] 56)) 2 ((N : Int) - 9223372036854775808) 0 ⟨#[]⟩ 56).below hb
          simpa using h
        have hs2 := hb.size
        simp at hs2
        have z0 : w.heap.size < w2.heap.size := by omega
        have z1 : w.heap.size + 1 < w2.heap.size := by omega
        go_wp2_with fail
      · refine bodyPost_ret (v := .tuple #[.agg #[.int .i64 0, .int .i64 0, .int .u64 0, .string ⟨#[]⟩], .int .i64 4]) (by simp [results, Tryd.results50, go_sem, *]) rfl ?_
        unfold OutN
        rw [HO.out, show sV ⟨2, (N : Int) - 9223372036854775808, 0, ⟨#[]⟩⟩ = false from HV.out]
        exact ⟨rfl, (by repeat (first | (with_reducible exact Below.refl _ _) | (with_reducible refine below_al ?_ _) | (with_reducible refine below_drewN ?_ _) | (with_reducible refine Below.drew ?_) | (with_reducible refine below_via (by assumption) ?_) | (with_reducible refine below_sc ?_ ?_ _; · (first | (simp; done) | (simp; omega) | omega))))⟩
      · refine bodyPost_ret (v := .tuple #[.agg #[.int .i64 2, .int .i64 ((N : Int) - 9223372036854775808), .int .u64 0, .string ⟨#[]⟩], .int .i64 0]) (by simp [results, Tryd.results50, go_sem, *]) rfl ?_
        unfold OutN
        rw [HO.out, show sV ⟨2, (N : Int) - 9223372036854775808, 0, ⟨#[]⟩⟩ = true from HV.out]
        exact ⟨rfl, (by repeat (first | (with_reducible exact Below.refl _ _) | (with_reducible refine below_al ?_ _) | (with_reducible refine below_drewN ?_ _) | (with_reducible refine Below.drew ?_) | (with_reducible refine below_via (by assumption) ?_) | (with_reducible refine below_sc ?_ ?_ _; · (first | (simp; done) | (simp; omega) | omega))))⟩

def numP (k : Int) (s : ByteArray) : Int × Int × Int × ByteArray × Int :=
  if sV (ofWord k (numB s.data.toList)) then ((ofWord k (numB s.data.toList)).k, (ofWord k (numB s.data.toList)).n, (ofWord k (numB s.data.toList)).f, (ofWord k (numB s.data.toList)).t, 0) else (0, 0, 0, ⟨#[]⟩, 4)
def xrNumber.f (k : Int) (s : ByteArray) : Option (Int × Int × Int × ByteArray × Int) := if (k = 1 ∨ k = 2 ∨ k = 3) ∧ s.size = 8 then some (numP k s) else none
theorem xrNumber.calls (k : Int) (s : ByteArray) (r1 r2 r3 : Int) (r4 : ByteArray) (r5 : Int) (w : World) (h : xrNumber.f k s = some (r1, r2, r3, r4, r5)) :
    Calls Tryd.prog 50 #[.int .i64 k, .string s] w fun e w' => e = .returned (.tuple #[.agg #[.int .i64 r1, .int .i64 r2, .int .u64 r3, .string r4], .int .i64 r5]) ∧ Below w.heap.size w w' := by
  unfold xrNumber.f at h
  split at h
  · rename_i hc
    obtain ⟨hk, h8⟩ := hc
    have hn : Calls Tryd.prog 50 #[.int .i64 k, .string s] w (OutN (ofWord k (numB s.data.toList)) w) := by
      rcases hk with rfl | rfl | rfl
      · exact rnum_1 s w h8
      · exact rnum_2 s w h8
      · exact rnum_3 s w h8
    have he := Option.some.inj h
    unfold numP at he
    refine hn.mono fun e w' ho => ?_
    obtain ⟨ho1, ho2⟩ := ho
    refine ⟨?_, ho2⟩
    rw [ho1]
    cases hs : sV (ofWord k (numB s.data.toList))
    · rw [hs] at he
      simp only [Bool.false_eq_true, if_false, Prod.mk.injEq] at he ⊢
      obtain ⟨rfl, rfl, rfl, rfl, rfl⟩ := he
      rfl
    · rw [hs] at he
      simp only [if_true, Prod.mk.injEq] at he ⊢
      obtain ⟨rfl, rfl, rfl, rfl, rfl⟩ := he
      rfl
  · cases h

end Go.Proofs.YthpkjkcfhipjhaaDoor
