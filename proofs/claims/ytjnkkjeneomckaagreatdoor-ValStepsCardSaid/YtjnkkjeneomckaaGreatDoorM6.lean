/- What the document's digits, quotes and texts come to, in plain words. The document's floats and casts. The document's casts. The document's order, casts and floats in the shape that the printed walks ask. -/
import Derived.Test.YtjnkkjeneomckaaGreatDoorPRDx
import Derived.Test.YtjnkkjeneomckaaGreatDoorM5
import Derived.Test.YtjnkkjeneomckaaGreatDoorM4
import Derived.Test.YtjnkkjeneomckaaGreatDoorM2
namespace Go.Proofs.YtjnkkjeneomckaaGreatDoor
set_option linter.unusedVariables false
set_option linter.unusedSimpArgs false
open Go.RowKit Go.Proofs.YtjnkkjeneomckaaGreatDoorW.PrintWords
open PRD

def numsL (l : List UInt8) : List Int := l.map fun b => (b.toNat : Int)
theorem numsL_len (l : List UInt8) : (numsL l).length = l.length := by simp [numsL]
theorem numsL_app (l m : List UInt8) : numsL (l ++ m) = numsL l ++ numsL m := by simp [numsL]
theorem strOf_numsL (l : List UInt8) : strOfNums (numsL l) = ⟨l.toArray⟩ := by
  unfold strOfNums numsL
  rw [List.map_map]
  have : l.map ((fun n : Int => UInt8.ofNat n.toNat) ∘ fun b : UInt8 => (b.toNat : Int)) = l := by induction l <;> simp_all
  rw [this]
theorem ba_nil (s : ByteArray) : s ++ ⟨#[]⟩ = s := by apply ByteArray.ext; simp

theorem w64 {n : Int} (h0 : -9223372036854775808 ≤ n) (h1 : n ≤ 9223372036854775807) : wrap64 n = n := by unfold wrap64; omega
theorem wu64 {n : Int} (h0 : 0 ≤ n) (h1 : n < 18446744073709551616) : IntKind.u64.wrap n = n := by rw [IntKind.wrap_u64]; omega

/-- the digits, the last first -/
def rdig (u : Nat) : List UInt8 := (Lib.decDigits u).reverse
theorem rdig_lt {u : Nat} (h : u < 10) : rdig u = [UInt8.ofNat (48 + u)] := by unfold rdig; rw [Lib.decDigits, dif_pos h]; rfl
theorem rdig_ge {u : Nat} (h : ¬ u < 10) : rdig u = UInt8.ofNat (48 + u % 10) :: rdig (u / 10) := by unfold rdig; rw [Lib.decDigits, dif_neg h]; simp

theorem dig1 (u : Nat) : (IntKind.u64.wrap (48 + Int.tmod (u : Int) 10)) % 256 = ((UInt8.ofNat (48 + u % 10)).toNat : Int) := by
  have h1 : Int.tmod (u : Int) 10 = ((u % 10 : Nat) : Int) := rfl
  rw [h1, wu64 (by omega) (by omega)]
  have h2 : (UInt8.ofNat (48 + u % 10)).toNat = 48 + u % 10 := by simp; omega
  rw [h2]; omega
theorem dig2 (u : Nat) (h : u < 10) : (IntKind.u64.wrap (48 + (u : Int))) % 256 = ((UInt8.ofNat (48 + u)).toNat : Int) := by
  rw [wu64 (by omega) (by omega)]
  have h2 : (UInt8.ofNat (48 + u)).toNat = 48 + u := by simp; omega
  rw [h2]; omega
theorem dig3 (u : Nat) (h : u < 18446744073709551616) : IntKind.u64.wrap (Int.tdiv (u : Int) 10) = ((u / 10 : Nat) : Int) := by
  have h1 : Int.tdiv (u : Int) 10 = ((u / 10 : Nat) : Int) := rfl
  rw [h1, wu64 (by omega) (by omega)]

theorem l1_ev (L : List UInt8) (hL : L.length ≤ 100) : ∀ (i : Nat) (s : ByteArray), i ≤ L.length → s.size + i ≤ 1000 → Ev (fun k => freshetref01_digits.l1 k (numsL L) s ((i : Int) - 1)) (s ++ ⟨((L.take i).reverse).toArray⟩)
  | 0, s, _, _ => by
    refine Ev.step (f := fun _ => some s) (fun k => ?_) (by simpa [ba_nil] using Ev.now s)
    simp only [freshetref01_digits.l1]; rw [if_neg (by omega)]
  | i + 1, s, hi, hs => by
    have ih := l1_ev L hL i (s ++ ⟨#[L[i]]⟩) (by omega) (by simp [ByteArray.size_append]; show s.size + 1 + i ≤ 1000; omega)
    have e : s ++ ⟨((L.take (i + 1)).reverse).toArray⟩ = (s ++ ⟨#[L[i]]⟩) ++ ⟨((L.take i).reverse).toArray⟩ := by
      rw [List.take_succ_eq_append_getElem (by omega), List.reverse_append]; apply ByteArray.ext; simp [-List.take_append_getElem]
    rw [e]
    refine Ev.step (fun k => ?_) ih
    simp only [freshetref01_digits.l1]
    have h1 : ((i + 1 : Nat) : Int) - 1 = (i : Int) := by omega
    rw [h1, if_pos (by omega), if_pos (by omega), w64 (by omega) (by omega), if_pos (by omega), if_pos (by rw [numsL_len]; omega)]
    have h2 : ((numsL L).take ((i : Int) + 1).toNat).drop ((i : Int)).toNat = numsL [L[i]] := by
      rw [show ((i : Int) + 1).toNat = i + 1 by omega, show ((i : Int)).toNat = i by omega]
      simp only [numsL, ← List.map_take, ← List.map_drop]
      rw [List.take_succ_eq_append_getElem (by omega), List.drop_append_of_le_length (by simp; omega), List.drop_of_length_le (by simp; omega)]; rfl
    rw [h2]
    simp only [Option.bind_some, strOf_numsL]
    rw [if_pos (by show s.size + 1 ≤ _; omega), w64 (by omega) (by omega)]

theorem j2_ev (L : List UInt8) (hL : L.length ≤ 100) : Ev (fun k => freshetref01_digits.j2 k (numsL L)) ⟨L.reverse.toArray⟩ := by
  have h := l1_ev L hL L.length ⟨#[]⟩ (Nat.le_refl _) (by show 0 + _ ≤ _; omega)
  rw [List.take_length] at h
  have e : (⟨#[]⟩ ++ ⟨L.reverse.toArray⟩ : ByteArray) = ⟨L.reverse.toArray⟩ := by apply ByteArray.ext; simp
  rw [e] at h
  refine Ev.step (fun k => ?_) h
  simp only [freshetref01_digits.j2]
  rw [numsL_len, w64 (by omega) (by omega)]

theorem l0_end (n : Int) (u : Nat) (l : List UInt8) (hu : u < 10) (hl : l.length ≤ 30) :
    Ev (fun k => freshetref01_digits.l0 k n u (numsL l)) ⟨(l ++ rdig u ++ (if n < 0 then [45] else [])).reverse.toArray⟩ := by
  rw [rdig_lt hu]
  have e1 : numsL l ++ [(IntKind.u64.wrap (48 + (u : Int))) % 256] = numsL (l ++ [UInt8.ofNat (48 + u)]) := by rw [dig2 u hu, numsL_app]; rfl
  by_cases hn : n < 0
  · rw [if_pos hn]
    refine Ev.step (fun k => ?_) (j2_ev (l ++ [UInt8.ofNat (48 + u)] ++ [45]) (by simp; omega))
    simp only [freshetref01_digits.l0]
    rw [if_neg (by omega), if_pos (by rw [numsL_len]; omega), e1]
    simp only [Option.bind_some]
    rw [if_pos hn, if_pos (by rw [numsL_len]; simp; omega), numsL_app (l ++ [UInt8.ofNat (48 + u)])]; rfl
  · rw [if_neg hn, List.append_nil]
    refine Ev.step (fun k => ?_) (j2_ev (l ++ [UInt8.ofNat (48 + u)]) (by simp; omega))
    simp only [freshetref01_digits.l0]
    rw [if_neg (by omega), if_pos (by rw [numsL_len]; omega), e1]
    simp only [Option.bind_some]
    rw [if_neg hn]

theorem l0_ev (n : Int) : ∀ (d u : Nat) (l : List UInt8), u < 10 ^ (d + 1) → u < 18446744073709551616 → l.length + d ≤ 30 →
    Ev (fun k => freshetref01_digits.l0 k n u (numsL l)) ⟨(l ++ rdig u ++ (if n < 0 then [45] else [])).reverse.toArray⟩
  | 0, u, l, h, _, hl => l0_end n u l (by simpa using h) (by omega)
  | d + 1, u, l, h, h64, hl => by
    by_cases hu : u < 10
    · exact l0_end n u l hu (by omega)
    · have ih := l0_ev n d (u / 10) (l ++ [UInt8.ofNat (48 + u % 10)]) (by rw [Nat.pow_succ] at h; omega) (by omega) (by simp; omega)
      rw [rdig_ge hu]
      rw [show l ++ (UInt8.ofNat (48 + u % 10) :: rdig (u / 10)) = l ++ [UInt8.ofNat (48 + u % 10)] ++ rdig (u / 10) by simp]
      refine Ev.step (fun k => ?_) ih
      simp only [freshetref01_digits.l0]
      rw [if_pos (by omega), if_pos (by rw [numsL_len]; omega), dig3 u h64, dig1, numsL_app]; rfl

theorem digits_ev (n : Int) (h : I64 n) : Ev (fun k => freshetref01_digits.f k n) ⟨(Lib.itoa n).toArray⟩ := by
  obtain ⟨h0, h1⟩ := h
  have key : ∀ u : Nat, u < 10000000000000000000 → Ev (fun k => freshetref01_digits.j0 k n u) ⟨(rdig u ++ (if n < 0 then [45] else [])).reverse.toArray⟩ := fun u hu => by
    have := l0_ev n 19 u [] (by omega) (by omega) (by simp)
    rw [List.nil_append] at this
    refine Ev.step (fun k => ?_) this
    simp only [freshetref01_digits.j0]; rfl
  unfold Lib.itoa
  by_cases hn : n < 0
  · have k := key n.natAbs (by omega)
    rw [if_pos hn] at k ⊢
    have e : (rdig n.natAbs ++ [45]).reverse = 45 :: Lib.decDigits n.natAbs := by simp [rdig]
    rw [e] at k
    refine Ev.congr (fun m => ?_) k
    simp only [freshetref01_digits.f]
    rw [if_pos hn]
    congr 1
    rw [IntKind.wrap_u64, IntKind.wrap_u64]; omega
  · have k := key n.toNat (by omega)
    rw [if_neg hn, List.append_nil] at k
    rw [if_neg hn]
    have e : (rdig n.toNat).reverse = Lib.decDigits n.toNat := by simp [rdig]
    rw [e] at k
    refine Ev.congr (fun m => ?_) k
    simp only [freshetref01_digits.f]
    rw [if_neg hn]
    congr 1
    rw [IntKind.wrap_u64]; omega


end Go.Proofs.YtjnkkjeneomckaaGreatDoor

namespace Go.Proofs.YtjnkkjeneomckaaGreatDoor
set_option linter.unusedVariables false
set_option linter.unusedSimpArgs false
open Go.RowKit

theorem and63n (b : Nat) : bits .and .u64 (b : Int) 9223372036854775807 = ((b % 9223372036854775808 : Nat) : Int) := by
  show IntKind.u64.wrap (((BitVec.ofInt 64 (b : Int)) &&& (BitVec.ofInt 64 9223372036854775807)).toNat : Int) = _
  rw [BitVec.toNat_and, BitVec.toNat_ofInt, BitVec.toNat_ofInt]
  have e1 : ((9223372036854775807 : Int) % ((2 ^ 64 : Nat) : Int)).toNat = 2 ^ 63 - 1 := by decide
  rw [e1, Nat.and_two_pow_sub_one_eq_mod, IntKind.wrap_u64]
  have e2 : ((2 ^ 64 : Nat) : Int) = 18446744073709551616 := by decide
  rw [e2]
  omega
theorem fNaN_andn (b : Nat) : decide (9218868437227405312 < bits .and .u64 (b : Int) 9223372036854775807) = fNaN b := by
  rw [and63n, fNaN_iff]
  congr 1
  apply propext
  rw [Int.toNat_natCast]; omega

set_option maxRecDepth 100000 in
set_option maxHeartbeats 2000000 in
theorem rIsNaN_n (b : Nat) (w : World) : Calls Tryz.prog 49 #[.int .u64 b] w fun e w' => e = .returned (.bool (fNaN b)) ∧ w = w' := by
  have h2 := fNaN_andn b
  go_enter Tryz.func49, Tryz.ntmps49
  go_wp2_with fail
  go_ret
  exact ⟨rfl, rfl⟩

set_option maxRecDepth 100000 in
set_option maxHeartbeats 2000000 in
theorem rPlain_n (b : Nat) (w : World) : Calls Tryz.prog 46 #[.int .u64 b] w fun e w' => e = .returned (.int .u64 (plainI b)) ∧ w = w' := by
  have hm : fNaN 9223372036854775808 = false := by kernel_rfl
  go_enter Tryz.func46, Tryz.ntmps46
  go_wp2_with (go_at_call 49; refine (rIsNaN_n _ _).mono ?_; rintro e w' ⟨rfl, rfl⟩)
  · go_ret; refine ⟨?_, rfl⟩
    have hb : (b : Int) = 9223372036854775808 := by have : ((b : Int) == 9223372036854775808) = true := by assumption
                                                    simpa using this
    rw [hb]; rfl
  · go_ret; refine ⟨?_, rfl⟩
    have hN : fNaN b = true := by assumption
    simp only [plainI, hN, if_true]; rfl
  · go_ret; refine ⟨?_, rfl⟩
    have hN : fNaN b = false := by assumption
    have hb : ((b : Int) == 9223372036854775808) = false := by assumption
    simp only [plainI, hN, hb]; rfl

set_option maxRecDepth 100000 in
set_option maxHeartbeats 2000000 in
theorem rOfFloat_n (b : Nat) (w : World) : Calls Tryz.prog 22 #[.int .u64 b] w fun e w' => e = .returned (.agg #[.int .i64 3, .int .i64 0, .int .u64 (plainI b), .string ⟨#[]⟩]) ∧ Below w.heap.size w w' := by
  go_enter Tryz.func22, Tryz.ntmps22
  go_wp2_with (go_at_call 46; refine (rPlain_n _ _).mono ?_; rintro e w' ⟨rfl, rfl⟩)
  exact bodyPost_ret (v := .agg #[.int .i64 3, .int .i64 0, .int .u64 (plainI b), .string ⟨#[]⟩]) (by simp [results, Tryz.results22, go_sem]) rfl ⟨rfl, below_box _ _⟩

set_option maxRecDepth 100000 in
set_option maxHeartbeats 2000000 in
theorem rFloats_c (code : Int) (x y : Int) (w : World) : Calls Tryz.prog 30 #[.int .i64 code, .int .u64 x, .int .u64 y] w fun e w' => e = .returned (.agg #[.int .i64 3, .int .i64 0, .int .u64 (floatS code x.toNat y.toNat), .string ⟨#[]⟩]) ∧ Below w.heap.size w w' := by
  obtain ⟨r1, n1, e1, p1⟩ := run_farith .add (by simp) x.toNat y.toNat (w.alloc (.cells #[.int .i64 0, .int .i64 0, .int .u64 0, .string ⟨#[]⟩] 25))
  obtain ⟨r2, n2, e2, p2⟩ := run_farith .sub (by simp) x.toNat y.toNat (w.alloc (.cells #[.int .i64 0, .int .i64 0, .int .u64 0, .string ⟨#[]⟩] 25))
  obtain ⟨r3, n3, e3, p3⟩ := run_farith .mul (by simp) x.toNat y.toNat (w.alloc (.cells #[.int .i64 0, .int .i64 0, .int .u64 0, .string ⟨#[]⟩] 25))
  obtain ⟨r4, n4, e4, p4⟩ := run_farith .quo (by simp) x.toNat y.toNat (w.alloc (.cells #[.int .i64 0, .int .i64 0, .int .u64 0, .string ⟨#[]⟩] 25))
  have P1 := Lib.hid p1; have P2 := Lib.hid p2; have P3 := Lib.hid p3; have P4 := Lib.hid p4
  clear p1 p2 p3 p4
  have h1 := run_frombits
  have h2 := run_tobits
  go_enter Tryz.func30, Tryz.ntmps30
  go_wp2_with (go_at_call 22; refine (rOfFloat_n _ _).mono ?_; rintro e w' ⟨rfl, hb⟩; (try (replace hb := below_undrew hb)); (try (replace hb := below_undrewN hb)); obtain ⟨hc, hf⟩ := bcell hb; (try (have hz0 : w.heap.size < w'.heap.size := (by have := hb.size; (try simp at this); omega))); (try (have hz1 : w.heap.size + 1 < w'.heap.size := (by have := hb.size; (try simp at this); omega))); (try (have hz2 : w.heap.size + 2 < w'.heap.size := (by have := hb.size; (try simp at this); omega))); (try (have hz3 : w.heap.size + 3 < w'.heap.size := (by have := hb.size; (try simp at this); omega))))
  all_goals clear e1 e2 e3 e4 h1 h2
  · exact bodyPost_ret (v := .agg #[.int .i64 3, .int .i64 0, .int .u64 (plainI r1), .string ⟨#[]⟩]) (by simp [results, Tryz.results30, go_sem, *]) rfl ⟨by rw [P1.out]; simp [floatS, floatBits, *]; try rfl, (by repeat (first | (with_reducible exact Below.refl _ _) | (with_reducible refine below_al ?_ _) | (with_reducible refine below_drewN ?_ _) | (with_reducible refine Below.drew ?_) | (with_reducible refine below_via (by assumption) ?_) | (with_reducible refine below_sc ?_ ?_ _; · (first | (simp; done) | (simp; omega) | omega))))⟩
  · exact bodyPost_ret (v := .agg #[.int .i64 3, .int .i64 0, .int .u64 (plainI r2), .string ⟨#[]⟩]) (by simp [results, Tryz.results30, go_sem, *]) rfl ⟨by rw [P2.out]; simp [floatS, floatBits, *]; try rfl, (by repeat (first | (with_reducible exact Below.refl _ _) | (with_reducible refine below_al ?_ _) | (with_reducible refine below_drewN ?_ _) | (with_reducible refine Below.drew ?_) | (with_reducible refine below_via (by assumption) ?_) | (with_reducible refine below_sc ?_ ?_ _; · (first | (simp; done) | (simp; omega) | omega))))⟩
  · exact bodyPost_ret (v := .agg #[.int .i64 3, .int .i64 0, .int .u64 (plainI r3), .string ⟨#[]⟩]) (by simp [results, Tryz.results30, go_sem, *]) rfl ⟨by rw [P3.out]; simp [floatS, floatBits, *]; try rfl, (by repeat (first | (with_reducible exact Below.refl _ _) | (with_reducible refine below_al ?_ _) | (with_reducible refine below_drewN ?_ _) | (with_reducible refine Below.drew ?_) | (with_reducible refine below_via (by assumption) ?_) | (with_reducible refine below_sc ?_ ?_ _; · (first | (simp; done) | (simp; omega) | omega))))⟩
  · exact bodyPost_ret (v := .agg #[.int .i64 3, .int .i64 0, .int .u64 (plainI r4), .string ⟨#[]⟩]) (by simp [results, Tryz.results30, go_sem, *]) rfl ⟨by rw [P4.out]; simp [floatS, floatBits, *]; try rfl, (by repeat (first | (with_reducible exact Below.refl _ _) | (with_reducible refine below_al ?_ _) | (with_reducible refine below_drewN ?_ _) | (with_reducible refine Below.drew ?_) | (with_reducible refine below_via (by assumption) ?_) | (with_reducible refine below_sc ?_ ?_ _; · (first | (simp; done) | (simp; omega) | omega))))⟩

/-- a door's answer as numbers and a text -/
def tupD (r : Except Int V) : Int × Int × Int × ByteArray × Int := ((resV r).1.k, (resV r).1.n, (resV r).1.f, (resV r).1.t, (resV r).2)

end Go.Proofs.YtjnkkjeneomckaaGreatDoor

namespace Go.Proofs.YtjnkkjeneomckaaGreatDoor
set_option linter.unusedVariables false
set_option linter.unusedSimpArgs false
open Go.RowKit

theorem rDigits_c (n : Int) (w : World) (h : I64 n) : Calls Tryz.prog 50 #[.int .i64 n] w fun e w' => e = .returned (.string ⟨(Lib.itoa n).toArray⟩) ∧ Below w.heap.size w w' := by
  obtain ⟨m, h⟩ := (digits_ev n h).rounds
  exact PRD.freshetref01_digits.calls m n _ w h

set_option maxRecDepth 100000 in
set_option maxHeartbeats 400000 in
theorem rOfInt_z (n : Int) (w : World) : Calls Tryz.prog 23 #[.int .i64 n] w fun e w' => e = .returned (.agg #[.int .i64 2, .int .i64 n, .int .u64 0, .string ⟨#[]⟩]) ∧ Below w.heap.size w w' := by
  go_enter Tryz.func23, Tryz.ntmps23
  go_wp2_with fail
  exact bodyPost_ret (v := .agg #[.int .i64 2, .int .i64 n, .int .u64 0, .string ⟨#[]⟩]) (by simp [results, Tryz.results23, go_sem]) rfl ⟨rfl, below_box _ _⟩

def OutT (r : Except Int V) (w : World) (e : Ending) (w' : World) : Prop :=
  e = .returned (.tuple #[.agg #[.int .i64 (resV r).1.k, .int .i64 (resV r).1.n, .int .u64 (resV r).1.f, .string (resV r).1.t], .int .i64 (resV r).2]) ∧ Below w.heap.size w w'

set_option maxRecDepth 100000 in
set_option maxHeartbeats 2000000 in
theorem rcast23 (n f : Int) (t : ByteArray) (w : World) : Calls Tryz.prog 21 #[.agg #[.int .i64 2, .int .i64 n, .int .u64 f, .string t], .int .i64 3] w (OutT (.ok ⟨3, 0, plainI (floatOfInt .f64 n), ⟨#[]⟩⟩) w) := by
  have h1 := run_tobits
  go_enter Tryz.func21, Tryz.ntmps21
  go_wp2_with (go_at_call 22; refine (rOfFloat_n _ _).mono ?_; rintro e w' ⟨rfl, hb⟩; (try (replace hb := below_undrew hb)); (try (replace hb := below_undrewN hb)); obtain ⟨hc, hf⟩ := bcell hb; (try (have hz0 : w.heap.size < w'.heap.size := (by have := hb.size; (try simp at this); omega))); (try (have hz1 : w.heap.size + 1 < w'.heap.size := (by have := hb.size; (try simp at this); omega))); (try (have hz2 : w.heap.size + 2 < w'.heap.size := (by have := hb.size; (try simp at this); omega))); (try (have hz3 : w.heap.size + 3 < w'.heap.size := (by have := hb.size; (try simp at this); omega))))
  exact bodyPost_ret (v := .tuple #[.agg #[.int .i64 3, .int .i64 0, .int .u64 (plainI (floatOfInt .f64 n)), .string ⟨#[]⟩], .int .i64 0]) (by simp [results, Tryz.results21, go_sem, *]) rfl ⟨rfl, (by repeat (first | (with_reducible exact Below.refl _ _) | (with_reducible refine below_al ?_ _) | (with_reducible refine below_drewN ?_ _) | (with_reducible refine Below.drew ?_) | (with_reducible refine below_via (by assumption) ?_) | (with_reducible refine below_sc ?_ ?_ _; · (first | (simp; done) | (simp; omega) | omega))))⟩

set_option maxRecDepth 100000 in
set_option maxHeartbeats 2000000 in
theorem rcast24 (n f : Int) (t : ByteArray) (w : World) (hn : I64 n) : Calls Tryz.prog 21 #[.agg #[.int .i64 2, .int .i64 n, .int .u64 f, .string t], .int .i64 4] w (OutT (.ok ⟨4, 0, 0, ⟨(Lib.itoa n).toArray⟩⟩) w) := by
  have D := Lib.hid (fun w => rDigits_c n w hn); clear hn
  go_enter Tryz.func21, Tryz.ntmps21
  go_wp2_with (go_at_call 50; refine (D.out _).mono ?_; rintro e w' ⟨rfl, hb⟩; (try (replace hb := below_undrew hb)); (try (replace hb := below_undrewN hb)); obtain ⟨hc, hf⟩ := bcell hb; (try (have hz0 : w.heap.size < w'.heap.size := (by have := hb.size; (try simp at this); omega))); (try (have hz1 : w.heap.size + 1 < w'.heap.size := (by have := hb.size; (try simp at this); omega))); (try (have hz2 : w.heap.size + 2 < w'.heap.size := (by have := hb.size; (try simp at this); omega))); (try (have hz3 : w.heap.size + 3 < w'.heap.size := (by have := hb.size; (try simp at this); omega))))
  exact bodyPost_ret (v := .tuple #[.agg #[.int .i64 4, .int .i64 0, .int .u64 0, .string ⟨(Lib.itoa n).toArray⟩], .int .i64 0]) (by simp [results, Tryz.results21, go_sem, *]) rfl ⟨rfl, (by repeat (first | (with_reducible exact Below.refl _ _) | (with_reducible refine below_al ?_ _) | (with_reducible refine below_drewN ?_ _) | (with_reducible refine Below.drew ?_) | (with_reducible refine below_via (by assumption) ?_) | (with_reducible refine below_sc ?_ ?_ _; · (first | (simp; done) | (simp; omega) | omega))))⟩

set_option maxRecDepth 100000 in
set_option maxHeartbeats 2000000 in
theorem rcast14 (n f : Int) (t : ByteArray) (w : World) : Calls Tryz.prog 21 #[.agg #[.int .i64 1, .int .i64 n, .int .u64 f, .string t], .int .i64 4] w (OutT (.ok ⟨4, 0, 0, ⟨(Lib.formatBool (n == 1)).toArray⟩⟩) w) := by
  cases h : (n == 1)
  · go_enter Tryz.func21, Tryz.ntmps21
    go_wp2_with fail
    exact bodyPost_ret (v := .tuple #[.agg #[.int .i64 4, .int .i64 0, .int .u64 0, .string ⟨#[102, 97, 108, 115, 101]⟩], .int .i64 0]) (by simp [results, Tryz.results21, go_sem, *]) rfl ⟨rfl, (by repeat (first | (with_reducible exact Below.refl _ _) | (with_reducible refine below_al ?_ _) | (with_reducible refine below_drewN ?_ _) | (with_reducible refine Below.drew ?_) | (with_reducible refine below_via (by assumption) ?_) | (with_reducible refine below_sc ?_ ?_ _; · (first | (simp; done) | (simp; omega) | omega))))⟩
  · go_enter Tryz.func21, Tryz.ntmps21
    go_wp2_with fail
    exact bodyPost_ret (v := .tuple #[.agg #[.int .i64 4, .int .i64 0, .int .u64 0, .string ⟨#[116, 114, 117, 101]⟩], .int .i64 0]) (by simp [results, Tryz.results21, go_sem, *]) rfl ⟨rfl, (by repeat (first | (with_reducible exact Below.refl _ _) | (with_reducible refine below_al ?_ _) | (with_reducible refine below_drewN ?_ _) | (with_reducible refine Below.drew ?_) | (with_reducible refine below_via (by assumption) ?_) | (with_reducible refine below_sc ?_ ?_ _; · (first | (simp; done) | (simp; omega) | omega))))⟩

def errT : Value := .tuple #[.agg #[.int .i64 0, .int .i64 0, .int .u64 0, .string ⟨#[]⟩], .int .i64 1]
set_option maxRecDepth 100000 in
set_option maxHeartbeats 2000000 in
theorem rcast_no1 (n f : Int) (t : ByteArray) (kind : Int) (w : World) (h4 : (kind == 4) = false) :
    Calls Tryz.prog 21 #[.agg #[.int .i64 1, .int .i64 n, .int .u64 f, .string t], .int .i64 kind] w (OutT (.error 1) w) := by
  go_enter Tryz.func21, Tryz.ntmps21
  go_wp2_with fail
  exact bodyPost_ret (v := errT) (by simp [errT, results, Tryz.results21, go_sem, *]) rfl ⟨rfl, (by repeat (first | (with_reducible exact Below.refl _ _) | (with_reducible refine below_al ?_ _) | (with_reducible refine below_drewN ?_ _) | (with_reducible refine Below.drew ?_) | (with_reducible refine below_via (by assumption) ?_) | (with_reducible refine below_sc ?_ ?_ _; · (first | (simp; done) | (simp; omega) | omega))))⟩
set_option maxRecDepth 100000 in
set_option maxHeartbeats 2000000 in
theorem rcast_no2 (n f : Int) (t : ByteArray) (kind : Int) (w : World) (h3 : (kind == 3) = false) (h4 : (kind == 4) = false) :
    Calls Tryz.prog 21 #[.agg #[.int .i64 2, .int .i64 n, .int .u64 f, .string t], .int .i64 kind] w (OutT (.error 1) w) := by
  go_enter Tryz.func21, Tryz.ntmps21
  go_wp2_with fail
  exact bodyPost_ret (v := errT) (by simp [errT, results, Tryz.results21, go_sem, *]) rfl ⟨rfl, (by repeat (first | (with_reducible exact Below.refl _ _) | (with_reducible refine below_al ?_ _) | (with_reducible refine below_drewN ?_ _) | (with_reducible refine Below.drew ?_) | (with_reducible refine below_via (by assumption) ?_) | (with_reducible refine below_sc ?_ ?_ _; · (first | (simp; done) | (simp; omega) | omega))))⟩
set_option maxRecDepth 100000 in
set_option maxHeartbeats 2000000 in
theorem rcast_no3 (n f : Int) (t : ByteArray) (kind : Int) (w : World) (h2 : (kind == 2) = false) :
    Calls Tryz.prog 21 #[.agg #[.int .i64 3, .int .i64 n, .int .u64 f, .string t], .int .i64 kind] w (OutT (.error 1) w) := by
  go_enter Tryz.func21, Tryz.ntmps21
  go_wp2_with fail
  exact bodyPost_ret (v := errT) (by simp [errT, results, Tryz.results21, go_sem, *]) rfl ⟨rfl, (by repeat (first | (with_reducible exact Below.refl _ _) | (with_reducible refine below_al ?_ _) | (with_reducible refine below_drewN ?_ _) | (with_reducible refine Below.drew ?_) | (with_reducible refine below_via (by assumption) ?_) | (with_reducible refine below_sc ?_ ?_ _; · (first | (simp; done) | (simp; omega) | omega))))⟩
set_option maxRecDepth 100000 in
set_option maxHeartbeats 2000000 in
theorem rcast_no0 (k n f : Int) (t : ByteArray) (kind : Int) (w : World) (h1 : (k == 1) = false) (h2 : (k == 2) = false) (h3 : (k == 3) = false) :
    Calls Tryz.prog 21 #[.agg #[.int .i64 k, .int .i64 n, .int .u64 f, .string t], .int .i64 kind] w (OutT (.error 1) w) := by
  go_enter Tryz.func21, Tryz.ntmps21
  go_wp2_with fail
  exact bodyPost_ret (v := errT) (by simp [errT, results, Tryz.results21, go_sem, *]) rfl ⟨rfl, (by repeat (first | (with_reducible exact Below.refl _ _) | (with_reducible refine below_al ?_ _) | (with_reducible refine below_drewN ?_ _) | (with_reducible refine Below.drew ?_) | (with_reducible refine below_via (by assumption) ?_) | (with_reducible refine below_sc ?_ ?_ _; · (first | (simp; done) | (simp; omega) | omega))))⟩
theorem rcast_no (k n f : Int) (t : ByteArray) (kind : Int) (w : World) (h1 : (k == 2 && kind == 3) = false) (h2 : (k == 3 && kind == 2) = false) (h3 : (k == 2 && kind == 4) = false) (h4 : (k == 1 && kind == 4) = false) :
    Calls Tryz.prog 21 #[.agg #[.int .i64 k, .int .i64 n, .int .u64 f, .string t], .int .i64 kind] w (OutT (.error 1) w) := by
  cases a1 : (k == 1) with
  | true => obtain rfl : k = 1 := by simpa using a1
            exact rcast_no1 n f t kind w (by simpa using h4)
  | false =>
    cases a2 : (k == 2) with
    | true => obtain rfl : k = 2 := by simpa using a2
              exact rcast_no2 n f t kind w (by simpa using h1) (by simpa using h3)
    | false =>
      cases a3 : (k == 3) with
      | true => obtain rfl : k = 3 := by simpa using a3
                exact rcast_no3 n f t kind w (by simpa using h2)
      | false => exact rcast_no0 k n f t kind w a1 a2 a3

theorem ord_some (f c : Nat) (hN : fNaN f = false) (hc : fNaN c = false) : FloatKind.f64.format.order f c = some .lt ∨ FloatKind.f64.format.order f c = some .eq ∨ FloatKind.f64.format.order f c = some .gt := by
  have gx : rungW f ≤ 9218868437227405312 := by have := nan_rung f; rw [hN] at this; simpa using this.symm
  have gy : rungW c ≤ 9218868437227405312 := by have := nan_rung c; rw [hc] at this; simpa using this.symm
  have ho : FloatKind.f64.format.order f c = some (compare (sr f) (sr c)) := order_sr gx gy
  rw [ho]
  cases compare (sr f) (sr c) <;> simp

theorem cast_nan (f : Nat) (hN : fNaN f = true) : intF f = none := by
  have := intF_range f
  rw [nan_rung] at hN
  have h : ¬ (rungW f ≤ 9218868437227405312 ∧ -(W63 : Int) ≤ sr f ∧ sr f < W63) := fun h => by simp at hN; omega
  rw [decide_eq_false h] at this
  cases hi : intF f with
  | none => rfl
  | some m => rw [hi] at this; cases this

theorem cast_yes (f : Nat) (hN : fNaN f = false) (m : Int) (h : intF f = some m) : (FloatKind.f64.format.order f 4890909195324358656 == some .gt) = false ∧ (FloatKind.f64.format.order f 4890909195324358656 == some .eq) = false ∧ (FloatKind.f64.format.order f 14114281232179134464 == some .lt) = false := by
  have ht := cast_test' f
  rw [h] at ht
  have h1 := ord_some f 4890909195324358656 hN (by kernel_rfl)
  have h2 := ord_some f 14114281232179134464 hN (by kernel_rfl)
  rcases h1 with e | e | e <;> rcases h2 with e2 | e2 | e2 <;> rw [e, e2] at ht <;> simp at ht <;> rw [e, e2] <;> simp
theorem cast_not (f : Nat) (hN : fNaN f = false) (h : intF f = none) : (FloatKind.f64.format.order f 4890909195324358656 == some .gt) = true ∨ (FloatKind.f64.format.order f 4890909195324358656 == some .gt) = false ∧ (FloatKind.f64.format.order f 4890909195324358656 == some .eq) = true ∨
    (FloatKind.f64.format.order f 4890909195324358656 == some .gt) = false ∧ (FloatKind.f64.format.order f 4890909195324358656 == some .eq) = false ∧ (FloatKind.f64.format.order f 14114281232179134464 == some .lt) = true := by
  have ht := cast_test' f
  rw [h] at ht
  have h1 := ord_some f 4890909195324358656 hN (by kernel_rfl)
  have h2 := ord_some f 14114281232179134464 hN (by kernel_rfl)
  rcases h1 with e | e | e <;> rcases h2 with e2 | e2 | e2 <;> rw [e, e2] at ht <;> simp at ht <;> rw [e, e2] <;> simp

set_option maxRecDepth 100000 in
set_option maxHeartbeats 2000000 in
theorem rcast32_some (n : Int) (f : Nat) (t : ByteArray) (m : Int) (w : World) (hm : intF f = some m) : Calls Tryz.prog 21 #[.agg #[.int .i64 3, .int .i64 n, .int .u64 f, .string t], .int .i64 2] w (OutT (.ok ⟨2, m, 0, ⟨#[]⟩⟩) w) := by
  have h1 := run_frombits
  have hN : fNaN f = false := by
    cases h : fNaN f with
    | false => rfl
    | true => rw [cast_nan f h] at hm; cases hm
  obtain ⟨p1, p2, p3⟩ := cast_yes f hN m hm
  have hcv := fun w => run_convert_float_int (P := Tryz.prog) w 54 3 .f64 .i64 f m (by rw [Tryz.underlying54]; rfl) Tryz.underlying3 (by rw [cast_fi, hm])
  have HM := Lib.hid hm; clear hm
  go_enter Tryz.func21, Tryz.ntmps21
  go_wp2_with (first | (go_at_call 49; refine (rIsNaN_n _ _).mono ?_; rintro e w' ⟨rfl, rfl⟩) | (go_at_call 23; refine (rOfInt_z _ _).mono ?_; rintro e w' ⟨rfl, hb⟩; (try (replace hb := below_undrew hb)); (try (replace hb := below_undrewN hb)); obtain ⟨hc, hf⟩ := bcell hb; (try (have hz0 : w.heap.size < w'.heap.size := (by have := hb.size; (try simp at this); omega))); (try (have hz1 : w.heap.size + 1 < w'.heap.size := (by have := hb.size; (try simp at this); omega))); (try (have hz2 : w.heap.size + 2 < w'.heap.size := (by have := hb.size; (try simp at this); omega))); (try (have hz3 : w.heap.size + 3 < w'.heap.size := (by have := hb.size; (try simp at this); omega)))))
  exact bodyPost_ret (v := .tuple #[.agg #[.int .i64 2, .int .i64 m, .int .u64 0, .string ⟨#[]⟩], .int .i64 0]) (by simp [results, Tryz.results21, go_sem, *]) rfl ⟨rfl, (by repeat (first | (with_reducible exact Below.refl _ _) | (with_reducible refine below_al ?_ _) | (with_reducible refine below_drewN ?_ _) | (with_reducible refine Below.drew ?_) | (with_reducible refine below_via (by assumption) ?_) | (with_reducible refine below_sc ?_ ?_ _; · (first | (simp; done) | (simp; omega) | omega))))⟩

set_option maxRecDepth 100000 in
set_option maxHeartbeats 2000000 in
theorem rcast32_none (n : Int) (f : Nat) (t : ByteArray) (w : World) (hm : intF f = none) : Calls Tryz.prog 21 #[.agg #[.int .i64 3, .int .i64 n, .int .u64 f, .string t], .int .i64 2] w (OutT (.error 11) w) := by
  have h1 := run_frombits
  cases hN : fNaN f with
  | true =>
    clear hm
    go_enter Tryz.func21, Tryz.ntmps21
    go_wp2_with (go_at_call 49; refine (rIsNaN_n _ _).mono ?_; rintro e w' ⟨rfl, rfl⟩)
    exact bodyPost_ret (v := .tuple #[.agg #[.int .i64 0, .int .i64 0, .int .u64 0, .string ⟨#[]⟩], .int .i64 11]) (by simp [results, Tryz.results21, go_sem, *]) rfl ⟨rfl, (by repeat (first | (with_reducible exact Below.refl _ _) | (with_reducible refine below_al ?_ _) | (with_reducible refine below_drewN ?_ _) | (with_reducible refine Below.drew ?_) | (with_reducible refine below_via (by assumption) ?_) | (with_reducible refine below_sc ?_ ?_ _; · (first | (simp; done) | (simp; omega) | omega))))⟩
  | false =>
    rcases cast_not f hN hm with p1 | ⟨p1, p2⟩ | ⟨p1, p2, p3⟩ <;> clear hm
    all_goals
      go_enter Tryz.func21, Tryz.ntmps21
      go_wp2_with (go_at_call 49; refine (rIsNaN_n _ _).mono ?_; rintro e w' ⟨rfl, rfl⟩)
      exact bodyPost_ret (v := .tuple #[.agg #[.int .i64 0, .int .i64 0, .int .u64 0, .string ⟨#[]⟩], .int .i64 11]) (by simp [results, Tryz.results21, go_sem, *]) rfl ⟨rfl, (by repeat (first | (with_reducible exact Below.refl _ _) | (with_reducible refine below_al ?_ _) | (with_reducible refine below_drewN ?_ _) | (with_reducible refine Below.drew ?_) | (with_reducible refine below_via (by assumption) ?_) | (with_reducible refine below_sc ?_ ?_ _; · (first | (simp; done) | (simp; omega) | omega))))⟩

theorem rCast_c (k n f : Int) (t : ByteArray) (kind : Int) (w : World) (hn : I64 n) (hf : U64 f) (hk : k ≠ kind) : Calls Tryz.prog 21 #[.agg #[.int .i64 k, .int .i64 n, .int .u64 f, .string t], .int .i64 kind] w (OutT (castS k n f t kind) w) := by
  by_cases c1 : k = 2 ∧ kind = 3
  · obtain ⟨rfl, rfl⟩ := c1
    have : castS 2 n f t 3 = .ok ⟨3, 0, plainI (floatOfInt .f64 n), ⟨#[]⟩⟩ := by simp [castS]
    rw [this]; exact rcast23 n f t w
  by_cases c2 : k = 3 ∧ kind = 2
  · obtain ⟨rfl, rfl⟩ := c2
    obtain ⟨m, rfl⟩ := Int.eq_ofNat_of_zero_le hf.1
    cases hm : intF m with
    | some x =>
      have : castS 3 n (m : Int) t 2 = .ok ⟨2, x, 0, ⟨#[]⟩⟩ := by simp [castS, hm]
      rw [this]; exact rcast32_some n m t x w hm
    | none =>
      have : castS 3 n (m : Int) t 2 = .error 11 := by simp [castS, hm]
      rw [this]; exact rcast32_none n m t w hm
  by_cases c3 : k = 2 ∧ kind = 4
  · obtain ⟨rfl, rfl⟩ := c3
    have : castS 2 n f t 4 = .ok ⟨4, 0, 0, ⟨(Lib.itoa n).toArray⟩⟩ := by simp [castS]
    rw [this]; exact rcast24 n f t w hn
  by_cases c4 : k = 1 ∧ kind = 4
  · obtain ⟨rfl, rfl⟩ := c4
    have : castS 1 n f t 4 = .ok ⟨4, 0, 0, ⟨(Lib.formatBool (n == 1)).toArray⟩⟩ := by simp [castS]
    rw [this]; exact rcast14 n f t w
  have e1 : (k == 2 && kind == 3) = false := by simpa using c1
  have e2 : (k == 3 && kind == 2) = false := by simpa using c2
  have e3 : (k == 2 && kind == 4) = false := by simpa using c3
  have e4 : (k == 1 && kind == 4) = false := by simpa using c4
  have e0 : (k == kind) = false := by simpa using hk
  have : castS k n f t kind = .error 1 := by unfold castS; rw [e0, e1, e2, e3, e4]; rfl
  rw [this]; exact rcast_no k n f t kind w e1 e2 e3 e4

end Go.Proofs.YtjnkkjeneomckaaGreatDoor

namespace Go.Proofs.YtjnkkjeneomckaaGreatDoor
set_option linter.unusedVariables false
set_option linter.unusedSimpArgs false
open Go.RowKit

def xrCompare.f (k n f : Int) (t : ByteArray) (k' n' f' : Int) (t' : ByteArray) : Option Int := if (0 ≤ f ∧ f < 18446744073709551616) ∧ (0 ≤ f' ∧ f' < 18446744073709551616) then some (cmpV k n f t k' n' f' t') else none
theorem xrCompare.calls (k n f : Int) (t : ByteArray) (k' n' f' : Int) (t' : ByteArray) (r : Int) (w : World) (h : xrCompare.f k n f t k' n' f' t' = some r) :
    Calls Tryz.prog 28 #[.agg #[.int .i64 k, .int .i64 n, .int .u64 f, .string t], .agg #[.int .i64 k', .int .i64 n', .int .u64 f', .string t']] w fun e w' => e = .returned (.int .i64 r) ∧ Below w.heap.size w w' := by
  obtain ⟨⟨hn, hn'⟩, rfl⟩ := ext_of h
  exact rCompare_v k n f t k' n' f' t' w hn hn'

def xrCast.f (k n f : Int) (t : ByteArray) (kind : Int) : Option (Int × Int × Int × ByteArray × Int) :=
  if (-9223372036854775808 ≤ n ∧ n ≤ 9223372036854775807) ∧ (0 ≤ f ∧ f < 18446744073709551616) ∧ k ≠ kind then some (tupD (castS k n f t kind)) else none
theorem xrCast.calls (k n f : Int) (t : ByteArray) (kind : Int) (r1 r2 r3 : Int) (r4 : ByteArray) (r5 : Int) (w : World) (h : xrCast.f k n f t kind = some (r1, r2, r3, r4, r5)) :
    Calls Tryz.prog 21 #[.agg #[.int .i64 k, .int .i64 n, .int .u64 f, .string t], .int .i64 kind] w fun e w' => e = .returned (.tuple #[.agg #[.int .i64 r1, .int .i64 r2, .int .u64 r3, .string r4], .int .i64 r5]) ∧ Below w.heap.size w w' := by
  obtain ⟨⟨hn, hf, hk⟩, he⟩ := ext_of h
  simp only [tupD, Prod.mk.injEq] at he
  obtain ⟨rfl, rfl, rfl, rfl, rfl⟩ := he
  exact rCast_c k n f t kind w hn hf hk

def xrFloats.f (code x y : Int) : Option (Int × Int × Int × ByteArray) := some (3, 0, floatS code x.toNat y.toNat, ⟨#[]⟩)
theorem xrFloats.calls (code x y : Int) (r1 r2 r3 : Int) (r4 : ByteArray) (w : World) (h : xrFloats.f code x y = some (r1, r2, r3, r4)) :
    Calls Tryz.prog 30 #[.int .i64 code, .int .u64 x, .int .u64 y] w fun e w' => e = .returned (.agg #[.int .i64 r1, .int .i64 r2, .int .u64 r3, .string r4]) ∧ Below w.heap.size w w' := by
  simp only [xrFloats.f, Option.some.injEq, Prod.mk.injEq] at h
  obtain ⟨rfl, rfl, rfl, rfl⟩ := h
  exact rFloats_c code x y w

end Go.Proofs.YtjnkkjeneomckaaGreatDoor
