/- a part of the claim: what the card leans on, out of the texts VR2, VS, VZ1, V10, V11, VR3 (put together by wip/tools/shake.py). -/
import Derived.Test.YtakcjiinchghaaaGreatDoorQE2
import Derived.Test.YtakcjiinchghaaaGreatDoorQE3
import Derived.BigQuiet
import Derived.Lib.VarintBits
section
namespace Go.Proofs.YtakcjiinchghaaaGreatDoor
set_option linter.unusedVariables false
set_option linter.unusedSimpArgs false
open Go.RowKit
theorem rKey_q (b : Int) (w : World) (h : U64 b) : Calls Tryz.prog 115 #[.int .u64 b] w fun e w'=>e = .returned (.int .u64 (rKey b)) ∧ w' = w:=(rKey_c b w h).mono fun _ _ ⟨a,b⟩=>⟨a,b.symm⟩
/-- the document's order -/
def rCmp (k n f : Int) (t : ByteArray) (k' n' f' : Int) (t' : ByteArray) : Int :=
 if !soundV k n f t || !soundV k' n' f' t' then 0
 else if k != k' then Lib.compareInt k k'
 else if k == 3 then Lib.compareInt (rKey f) (rKey f')
 else if k == 4 then Lib.compareBytes t.data.toList t'.data.toList
 else Lib.compareInt n n'
theorem sign_ci (x y : Int) : (if decide (x < y) then -1 else if decide (y < x) then 1 else 0 : Int) = Lib.compareInt x y:=by
 unfold Lib.compareInt;simp
theorem less_cb : ∀ a b : List UInt8,Op.bytesLess a b = decide (Lib.compareBytes a b = -1)
 | [],[]=>by simp [Op.bytesLess,Lib.compareBytes]
 | [],_ :: _=>by simp [Op.bytesLess,Lib.compareBytes]
 | _ :: _,[]=>by simp [Op.bytesLess,Lib.compareBytes]
 | a :: la,b :: lb=>by
  have ih:=less_cb la lb
  simp only [Op.bytesLess,Lib.compareBytes,ih,u8_lt]
  by_cases h1 : a.toNat < b.toNat
  ·have : a < b:=(u8_lt a b).2 h1
   simp [h1,this]
  ·have n1 : ¬ a < b:=fun h=>h1 ((u8_lt a b).1 h)
   by_cases h2 : b.toNat < a.toNat
   ·have h3 : a ≠ b:=fun h=>by rw [u8_eq] at h;omega
    simp [h1,h2,n1,h3]
   ·have h3 : a = b:=by rw [u8_eq];omega
    subst h3;simp [h1,n1]
theorem text_sign (t t' : ByteArray) : (if Op.bytesLess t.toList t'.toList then -1 else if !(Op.bytesLess t.toList t'.toList || t.toList == t'.toList) then 1 else 0 : Int) = Lib.compareBytes t.data.toList t'.data.toList:=by
 rw [ByteArray.toList_eq,ByteArray.toList_eq,less_cb]
 have h1:=cb_range t.data.toList t'.data.toList
 have h2:=cb_same t.data.toList t'.data.toList
 generalize Lib.compareBytes t.data.toList t'.data.toList = c at *
 rcases h1 with rfl | rfl | rfl
 ·simp
 ·have:=h2.1 rfl;simp [this]
 ·have h3 : (t.data.toList == t'.data.toList) = false:=by rw [beq_eq_false_iff_ne];intro h;have:=h2.2 h;omega
  rw [h3];simp
theorem rSign_ci (x y : Int) (w : World) : Calls Tryz.prog 114 #[.bool (decide (x < y)),.bool (decide (y < x))] w fun e w'=>e = .returned (.int .i64 (Lib.compareInt x y)) ∧ w = w':=by
 have:=rSign_c (decide (x < y)) (decide (y < x)) w
 rw [sign_ci] at this;exact this
theorem rSign_tx (t t' : ByteArray) (w : World) : Calls Tryz.prog 114 #[.bool (Op.bytesLess t.toList t'.toList),.bool !(Op.bytesLess t.toList t'.toList || t.toList == t'.toList)] w fun e w'=>e = .returned (.int .i64 (Lib.compareBytes t.data.toList t'.data.toList)) ∧ w = w':=by
 have:=rSign_c (Op.bytesLess t.toList t'.toList) (!(Op.bytesLess t.toList t'.toList || t.toList == t'.toList)) w
 rw [text_sign] at this;exact this
theorem rSign_tx' (t t' : ByteArray) (w : World) : Calls Tryz.prog 114 #[.bool (Op.bytesLess t.toList t'.toList),.bool (!Op.bytesLess t.toList t'.toList && !t.toList == t'.toList)] w fun e w'=>e = .returned (.int .i64 (Lib.compareBytes t.data.toList t'.data.toList)) ∧ w = w':=by
 rw [← Bool.not_or];exact rSign_tx t t' w
set_option maxRecDepth 100000 in
set_option maxHeartbeats 1000000 in
theorem rCompare_0 (k n f : Int) (t : ByteArray) (k' n' f' : Int) (t' : ByteArray) (w : World) (b1 b2 : Bool) (hb : (b1 && b2) = false)
  (s1 : ∀ w,Calls Tryz.prog 65 #[.agg #[.int .i64 k,.int .i64 n,.int .u64 f,.string t]] w fun e w'=>e = .returned (.bool b1) ∧ Below w.heap.size w w')
  (s2 : ∀ w,Calls Tryz.prog 65 #[.agg #[.int .i64 k',.int .i64 n',.int .u64 f',.string t']] w fun e w'=>e = .returned (.bool b2) ∧ Below w.heap.size w w') :
  Calls Tryz.prog 72 #[.agg #[.int .i64 k,.int .i64 n,.int .u64 f,.string t],.agg #[.int .i64 k',.int .i64 n',.int .u64 f',.string t']] w fun e w'=>e = .returned (.int .i64 0) ∧ Below w.heap.size w w':=by
 have S1:=Lib.hid s1;have S2:=Lib.hid s2;clear s1 s2
 cases b1 <;> cases b2
 all_goals try (exfalso;simp at hb;done)
 all_goals clear hb
 all_goals
  go_enter Tryz.func72,Tryz.ntmps72
  go_wp2_with (first | (go_at_call 65;(fail_if_success (have:=w1));((with_reducible refine (S1.out _).mono ?_);rintro e w1 ⟨rfl,hb1⟩;(try (replace hb1:=below_undrew hb1));(try (replace hb1:=below_undrewN hb1));obtain ⟨hc1,hf1⟩:=bcell hb1;(try (have hz0_1 : w.heap.size < w1.heap.size:=(by have:=hb1.size;(try simp at this);omega)));(try (have hz1_1 : w.heap.size + 1 < w1.heap.size:=(by have:=hb1.size;(try simp at this);omega))))) | (go_at_call 65;(fail_if_success (have:=w1));((with_reducible refine (S2.out _).mono ?_);rintro e w1 ⟨rfl,hb1⟩;(try (replace hb1:=below_undrew hb1));(try (replace hb1:=below_undrewN hb1));obtain ⟨hc1,hf1⟩:=bcell hb1;(try (have hz0_1 : w.heap.size < w1.heap.size:=(by have:=hb1.size;(try simp at this);omega)));(try (have hz1_1 : w.heap.size + 1 < w1.heap.size:=(by have:=hb1.size;(try simp at this);omega))))) | (go_at_call 65;(fail_if_success (have:=w2));((with_reducible refine (S1.out _).mono ?_);rintro e w2 ⟨rfl,hb2⟩;(try (replace hb2:=below_undrew hb2));(try (replace hb2:=below_undrewN hb2));obtain ⟨hc2,hf2⟩:=bcell hb2;(try (have hz0_2 : w.heap.size < w2.heap.size:=(by have:=hb2.size;(try simp at this);omega)));(try (have hz1_2 : w.heap.size + 1 < w2.heap.size:=(by have:=hb2.size;(try simp at this);omega)));(try (have hz_1_2 : w1.heap.size < w2.heap.size:=(by have:=hb2.size;(try simp at this);omega))))) | (go_at_call 65;(fail_if_success (have:=w2));((with_reducible refine (S2.out _).mono ?_);rintro e w2 ⟨rfl,hb2⟩;(try (replace hb2:=below_undrew hb2));(try (replace hb2:=below_undrewN hb2));obtain ⟨hc2,hf2⟩:=bcell hb2;(try (have hz0_2 : w.heap.size < w2.heap.size:=(by have:=hb2.size;(try simp at this);omega)));(try (have hz1_2 : w.heap.size + 1 < w2.heap.size:=(by have:=hb2.size;(try simp at this);omega)));(try (have hz_1_2 : w1.heap.size < w2.heap.size:=(by have:=hb2.size;(try simp at this);omega))))))
  go_ret;exact ⟨rfl,(by repeat (first | (with_reducible exact Below.refl _ _) | (with_reducible refine below_al ?_ _) | (with_reducible refine below_drewN ?_ _) | (with_reducible refine Below.drew ?_) | (with_reducible refine below_via (by assumption) ?_) | (with_reducible refine below_sc ?_ ?_ _;· (first | (simp;done) | (simp;omega) | omega))))⟩
set_option maxRecDepth 100000 in
set_option maxHeartbeats 1000000 in
theorem rCompare_k (k n f : Int) (t : ByteArray) (k' n' f' : Int) (t' : ByteArray) (w : World) (hk : (k == k') = false)
  (s1 : ∀ w,Calls Tryz.prog 65 #[.agg #[.int .i64 k,.int .i64 n,.int .u64 f,.string t]] w fun e w'=>e = .returned (.bool true) ∧ Below w.heap.size w w')
  (s2 : ∀ w,Calls Tryz.prog 65 #[.agg #[.int .i64 k',.int .i64 n',.int .u64 f',.string t']] w fun e w'=>e = .returned (.bool true) ∧ Below w.heap.size w w') :
  Calls Tryz.prog 72 #[.agg #[.int .i64 k,.int .i64 n,.int .u64 f,.string t],.agg #[.int .i64 k',.int .i64 n',.int .u64 f',.string t']] w fun e w'=>e = .returned (.int .i64 (Lib.compareInt k k')) ∧ Below w.heap.size w w':=by
 have S1:=Lib.hid s1;have S2:=Lib.hid s2;clear s1 s2
 go_enter Tryz.func72,Tryz.ntmps72
 go_wp2_with (first | (first | (go_at_call 65;(fail_if_success (have:=w1));((with_reducible refine (S1.out _).mono ?_);rintro e w1 ⟨rfl,hb1⟩;(try (replace hb1:=below_undrew hb1));(try (replace hb1:=below_undrewN hb1));obtain ⟨hc1,hf1⟩:=bcell hb1;(try (have hz0_1 : w.heap.size < w1.heap.size:=(by have:=hb1.size;(try simp at this);omega)));(try (have hz1_1 : w.heap.size + 1 < w1.heap.size:=(by have:=hb1.size;(try simp at this);omega))))) | (go_at_call 65;(fail_if_success (have:=w1));((with_reducible refine (S2.out _).mono ?_);rintro e w1 ⟨rfl,hb1⟩;(try (replace hb1:=below_undrew hb1));(try (replace hb1:=below_undrewN hb1));obtain ⟨hc1,hf1⟩:=bcell hb1;(try (have hz0_1 : w.heap.size < w1.heap.size:=(by have:=hb1.size;(try simp at this);omega)));(try (have hz1_1 : w.heap.size + 1 < w1.heap.size:=(by have:=hb1.size;(try simp at this);omega))))) | (go_at_call 65;(fail_if_success (have:=w2));((with_reducible refine (S1.out _).mono ?_);rintro e w2 ⟨rfl,hb2⟩;(try (replace hb2:=below_undrew hb2));(try (replace hb2:=below_undrewN hb2));obtain ⟨hc2,hf2⟩:=bcell hb2;(try (have hz0_2 : w.heap.size < w2.heap.size:=(by have:=hb2.size;(try simp at this);omega)));(try (have hz1_2 : w.heap.size + 1 < w2.heap.size:=(by have:=hb2.size;(try simp at this);omega)));(try (have hz_1_2 : w1.heap.size < w2.heap.size:=(by have:=hb2.size;(try simp at this);omega))))) | (go_at_call 65;(fail_if_success (have:=w2));((with_reducible refine (S2.out _).mono ?_);rintro e w2 ⟨rfl,hb2⟩;(try (replace hb2:=below_undrew hb2));(try (replace hb2:=below_undrewN hb2));obtain ⟨hc2,hf2⟩:=bcell hb2;(try (have hz0_2 : w.heap.size < w2.heap.size:=(by have:=hb2.size;(try simp at this);omega)));(try (have hz1_2 : w.heap.size + 1 < w2.heap.size:=(by have:=hb2.size;(try simp at this);omega)));(try (have hz_1_2 : w1.heap.size < w2.heap.size:=(by have:=hb2.size;(try simp at this);omega)))))) | (go_at_call 114;((with_reducible refine (rSign_ci k k' _).mono ?_);rintro e w' ⟨rfl,rfl⟩)))
 go_ret;exact ⟨rfl,(by repeat (first | (with_reducible exact Below.refl _ _) | (with_reducible refine below_al ?_ _) | (with_reducible refine below_drewN ?_ _) | (with_reducible refine Below.drew ?_) | (with_reducible refine below_via (by assumption) ?_) | (with_reducible refine below_sc ?_ ?_ _;· (first | (simp;done) | (simp;omega) | omega))))⟩
set_option maxRecDepth 100000 in
set_option maxHeartbeats 1000000 in
theorem rCompare_n (k n f : Int) (t : ByteArray) (n' f' : Int) (t' : ByteArray) (w : World) (h3 : (k == 3) = false) (h4 : (k == 4) = false)
  (s1 : ∀ w,Calls Tryz.prog 65 #[.agg #[.int .i64 k,.int .i64 n,.int .u64 f,.string t]] w fun e w'=>e = .returned (.bool true) ∧ Below w.heap.size w w')
  (s2 : ∀ w,Calls Tryz.prog 65 #[.agg #[.int .i64 k,.int .i64 n',.int .u64 f',.string t']] w fun e w'=>e = .returned (.bool true) ∧ Below w.heap.size w w') :
  Calls Tryz.prog 72 #[.agg #[.int .i64 k,.int .i64 n,.int .u64 f,.string t],.agg #[.int .i64 k,.int .i64 n',.int .u64 f',.string t']] w fun e w'=>e = .returned (.int .i64 (Lib.compareInt n n')) ∧ Below w.heap.size w w':=by
 have S1:=Lib.hid s1;have S2:=Lib.hid s2;clear s1 s2
 go_enter Tryz.func72,Tryz.ntmps72
 go_wp2_with (first | (first | (go_at_call 65;(fail_if_success (have:=w1));((with_reducible refine (S1.out _).mono ?_);rintro e w1 ⟨rfl,hb1⟩;(try (replace hb1:=below_undrew hb1));(try (replace hb1:=below_undrewN hb1));obtain ⟨hc1,hf1⟩:=bcell hb1;(try (have hz0_1 : w.heap.size < w1.heap.size:=(by have:=hb1.size;(try simp at this);omega)));(try (have hz1_1 : w.heap.size + 1 < w1.heap.size:=(by have:=hb1.size;(try simp at this);omega))))) | (go_at_call 65;(fail_if_success (have:=w1));((with_reducible refine (S2.out _).mono ?_);rintro e w1 ⟨rfl,hb1⟩;(try (replace hb1:=below_undrew hb1));(try (replace hb1:=below_undrewN hb1));obtain ⟨hc1,hf1⟩:=bcell hb1;(try (have hz0_1 : w.heap.size < w1.heap.size:=(by have:=hb1.size;(try simp at this);omega)));(try (have hz1_1 : w.heap.size + 1 < w1.heap.size:=(by have:=hb1.size;(try simp at this);omega))))) | (go_at_call 65;(fail_if_success (have:=w2));((with_reducible refine (S1.out _).mono ?_);rintro e w2 ⟨rfl,hb2⟩;(try (replace hb2:=below_undrew hb2));(try (replace hb2:=below_undrewN hb2));obtain ⟨hc2,hf2⟩:=bcell hb2;(try (have hz0_2 : w.heap.size < w2.heap.size:=(by have:=hb2.size;(try simp at this);omega)));(try (have hz1_2 : w.heap.size + 1 < w2.heap.size:=(by have:=hb2.size;(try simp at this);omega)));(try (have hz_1_2 : w1.heap.size < w2.heap.size:=(by have:=hb2.size;(try simp at this);omega))))) | (go_at_call 65;(fail_if_success (have:=w2));((with_reducible refine (S2.out _).mono ?_);rintro e w2 ⟨rfl,hb2⟩;(try (replace hb2:=below_undrew hb2));(try (replace hb2:=below_undrewN hb2));obtain ⟨hc2,hf2⟩:=bcell hb2;(try (have hz0_2 : w.heap.size < w2.heap.size:=(by have:=hb2.size;(try simp at this);omega)));(try (have hz1_2 : w.heap.size + 1 < w2.heap.size:=(by have:=hb2.size;(try simp at this);omega)));(try (have hz_1_2 : w1.heap.size < w2.heap.size:=(by have:=hb2.size;(try simp at this);omega)))))) | (go_at_call 114;((with_reducible refine (rSign_ci n n' _).mono ?_);rintro e w' ⟨rfl,rfl⟩)))
 go_ret;exact ⟨rfl,(by repeat (first | (with_reducible exact Below.refl _ _) | (with_reducible refine below_al ?_ _) | (with_reducible refine below_drewN ?_ _) | (with_reducible refine Below.drew ?_) | (with_reducible refine below_via (by assumption) ?_) | (with_reducible refine below_sc ?_ ?_ _;· (first | (simp;done) | (simp;omega) | omega))))⟩
set_option maxRecDepth 100000 in
set_option maxHeartbeats 1000000 in
theorem rCompare_t (n f : Int) (t : ByteArray) (n' f' : Int) (t' : ByteArray) (w : World)
  (s1 : ∀ w,Calls Tryz.prog 65 #[.agg #[.int .i64 4,.int .i64 n,.int .u64 f,.string t]] w fun e w'=>e = .returned (.bool true) ∧ Below w.heap.size w w')
  (s2 : ∀ w,Calls Tryz.prog 65 #[.agg #[.int .i64 4,.int .i64 n',.int .u64 f',.string t']] w fun e w'=>e = .returned (.bool true) ∧ Below w.heap.size w w') :
  Calls Tryz.prog 72 #[.agg #[.int .i64 4,.int .i64 n,.int .u64 f,.string t],.agg #[.int .i64 4,.int .i64 n',.int .u64 f',.string t']] w fun e w'=>e = .returned (.int .i64 (Lib.compareBytes t.data.toList t'.data.toList)) ∧ Below w.heap.size w w':=by
 have S1:=Lib.hid s1;have S2:=Lib.hid s2;clear s1 s2
 go_enter Tryz.func72,Tryz.ntmps72
 go_wp2_with (first | (first | (go_at_call 65;(fail_if_success (have:=w1));((with_reducible refine (S1.out _).mono ?_);rintro e w1 ⟨rfl,hb1⟩;(try (replace hb1:=below_undrew hb1));(try (replace hb1:=below_undrewN hb1));obtain ⟨hc1,hf1⟩:=bcell hb1;(try (have hz0_1 : w.heap.size < w1.heap.size:=(by have:=hb1.size;(try simp at this);omega)));(try (have hz1_1 : w.heap.size + 1 < w1.heap.size:=(by have:=hb1.size;(try simp at this);omega))))) | (go_at_call 65;(fail_if_success (have:=w1));((with_reducible refine (S2.out _).mono ?_);rintro e w1 ⟨rfl,hb1⟩;(try (replace hb1:=below_undrew hb1));(try (replace hb1:=below_undrewN hb1));obtain ⟨hc1,hf1⟩:=bcell hb1;(try (have hz0_1 : w.heap.size < w1.heap.size:=(by have:=hb1.size;(try simp at this);omega)));(try (have hz1_1 : w.heap.size + 1 < w1.heap.size:=(by have:=hb1.size;(try simp at this);omega))))) | (go_at_call 65;(fail_if_success (have:=w2));((with_reducible refine (S1.out _).mono ?_);rintro e w2 ⟨rfl,hb2⟩;(try (replace hb2:=below_undrew hb2));(try (replace hb2:=below_undrewN hb2));obtain ⟨hc2,hf2⟩:=bcell hb2;(try (have hz0_2 : w.heap.size < w2.heap.size:=(by have:=hb2.size;(try simp at this);omega)));(try (have hz1_2 : w.heap.size + 1 < w2.heap.size:=(by have:=hb2.size;(try simp at this);omega)));(try (have hz_1_2 : w1.heap.size < w2.heap.size:=(by have:=hb2.size;(try simp at this);omega))))) | (go_at_call 65;(fail_if_success (have:=w2));((with_reducible refine (S2.out _).mono ?_);rintro e w2 ⟨rfl,hb2⟩;(try (replace hb2:=below_undrew hb2));(try (replace hb2:=below_undrewN hb2));obtain ⟨hc2,hf2⟩:=bcell hb2;(try (have hz0_2 : w.heap.size < w2.heap.size:=(by have:=hb2.size;(try simp at this);omega)));(try (have hz1_2 : w.heap.size + 1 < w2.heap.size:=(by have:=hb2.size;(try simp at this);omega)));(try (have hz_1_2 : w1.heap.size < w2.heap.size:=(by have:=hb2.size;(try simp at this);omega)))))) | (go_at_call 114;((with_reducible refine (rSign_tx' t t' _).mono ?_);rintro e w' ⟨rfl,rfl⟩)))
 go_ret;exact ⟨rfl,(by repeat (first | (with_reducible exact Below.refl _ _) | (with_reducible refine below_al ?_ _) | (with_reducible refine below_drewN ?_ _) | (with_reducible refine Below.drew ?_) | (with_reducible refine below_via (by assumption) ?_) | (with_reducible refine below_sc ?_ ?_ _;· (first | (simp;done) | (simp;omega) | omega))))⟩
set_option maxRecDepth 100000 in
set_option maxHeartbeats 1000000 in
theorem rCompare_f (n f : Int) (t : ByteArray) (n' f' : Int) (t' : ByteArray) (w : World) (hf : U64 f) (hf' : U64 f')
  (s1 : ∀ w,Calls Tryz.prog 65 #[.agg #[.int .i64 3,.int .i64 n,.int .u64 f,.string t]] w fun e w'=>e = .returned (.bool true) ∧ Below w.heap.size w w')
  (s2 : ∀ w,Calls Tryz.prog 65 #[.agg #[.int .i64 3,.int .i64 n',.int .u64 f',.string t']] w fun e w'=>e = .returned (.bool true) ∧ Below w.heap.size w w') :
  Calls Tryz.prog 72 #[.agg #[.int .i64 3,.int .i64 n,.int .u64 f,.string t],.agg #[.int .i64 3,.int .i64 n',.int .u64 f',.string t']] w fun e w'=>e = .returned (.int .i64 (Lib.compareInt (rKey f) (rKey f'))) ∧ Below w.heap.size w w':=by
 have S1:=Lib.hid s1;have S2:=Lib.hid s2;clear s1 s2
 have K1:=Lib.hid (fun w=>rKey_q f w hf);have K2:=Lib.hid (fun w=>rKey_q f' w hf');clear hf hf'
 go_enter Tryz.func72,Tryz.ntmps72
 go_wp2_with (first | (first | (go_at_call 65;(fail_if_success (have:=w1));((with_reducible refine (S1.out _).mono ?_);rintro e w1 ⟨rfl,hb1⟩;(try (replace hb1:=below_undrew hb1));(try (replace hb1:=below_undrewN hb1));obtain ⟨hc1,hf1⟩:=bcell hb1;(try (have hz0_1 : w.heap.size < w1.heap.size:=(by have:=hb1.size;(try simp at this);omega)));(try (have hz1_1 : w.heap.size + 1 < w1.heap.size:=(by have:=hb1.size;(try simp at this);omega))))) | (go_at_call 65;(fail_if_success (have:=w1));((with_reducible refine (S2.out _).mono ?_);rintro e w1 ⟨rfl,hb1⟩;(try (replace hb1:=below_undrew hb1));(try (replace hb1:=below_undrewN hb1));obtain ⟨hc1,hf1⟩:=bcell hb1;(try (have hz0_1 : w.heap.size < w1.heap.size:=(by have:=hb1.size;(try simp at this);omega)));(try (have hz1_1 : w.heap.size + 1 < w1.heap.size:=(by have:=hb1.size;(try simp at this);omega))))) | (go_at_call 65;(fail_if_success (have:=w2));((with_reducible refine (S1.out _).mono ?_);rintro e w2 ⟨rfl,hb2⟩;(try (replace hb2:=below_undrew hb2));(try (replace hb2:=below_undrewN hb2));obtain ⟨hc2,hf2⟩:=bcell hb2;(try (have hz0_2 : w.heap.size < w2.heap.size:=(by have:=hb2.size;(try simp at this);omega)));(try (have hz1_2 : w.heap.size + 1 < w2.heap.size:=(by have:=hb2.size;(try simp at this);omega)));(try (have hz_1_2 : w1.heap.size < w2.heap.size:=(by have:=hb2.size;(try simp at this);omega))))) | (go_at_call 65;(fail_if_success (have:=w2));((with_reducible refine (S2.out _).mono ?_);rintro e w2 ⟨rfl,hb2⟩;(try (replace hb2:=below_undrew hb2));(try (replace hb2:=below_undrewN hb2));obtain ⟨hc2,hf2⟩:=bcell hb2;(try (have hz0_2 : w.heap.size < w2.heap.size:=(by have:=hb2.size;(try simp at this);omega)));(try (have hz1_2 : w.heap.size + 1 < w2.heap.size:=(by have:=hb2.size;(try simp at this);omega)));(try (have hz_1_2 : w1.heap.size < w2.heap.size:=(by have:=hb2.size;(try simp at this);omega)))))))
 go_quiet (first
  | (go_at_call 115;with_reducible exact Calls.quiet_of_same (K1.out _))
  | (go_at_call 115;with_reducible exact Calls.quiet_of_same (K2.out _))
  | (go_at_call 114;with_reducible exact Calls.quiet_of_same ((rSign_ci (rKey f) (rKey f') _).mono fun _ _ ⟨a,b⟩=>⟨a,b.symm⟩)))
 go_wp2_with fail
 go_ret;exact ⟨rfl,(by repeat (first | (with_reducible exact Below.refl _ _) | (with_reducible refine below_al ?_ _) | (with_reducible refine below_drewN ?_ _) | (with_reducible refine Below.drew ?_) | (with_reducible refine below_via (by assumption) ?_) | (with_reducible refine below_sc ?_ ?_ _;· (first | (simp;done) | (simp;omega) | omega))))⟩
theorem rCompare_c (k n f : Int) (t : ByteArray) (k' n' f' : Int) (t' : ByteArray) (w : World) (hf : U64 f) (hf' : U64 f') : Calls Tryz.prog 72 #[.agg #[.int .i64 k,.int .i64 n,.int .u64 f,.string t],.agg #[.int .i64 k',.int .i64 n',.int .u64 f',.string t']] w fun e w'=>e = .returned (.int .i64 (rCmp k n f t k' n' f' t')) ∧ Below w.heap.size w w':=by
 have S1:=fun w=>rSound_c k n f t w hf
 have S2:=fun w=>rSound_c k' n' f' t' w hf'
 cases hb : (soundV k n f t && soundV k' n' f' t') with
 | false =>
  have : rCmp k n f t k' n' f' t' = 0:=by unfold rCmp;rw [← Bool.not_and,hb];rfl
  rw [this];exact rCompare_0 k n f t k' n' f' t' w _ _ hb S1 S2
 | true =>
  obtain ⟨h1,h2⟩:=Bool.and_eq_true_iff.1 hb
  rw [h1] at S1;rw [h2] at S2
  cases hk : (k == k') with
  | false =>
   have : rCmp k n f t k' n' f' t' = Lib.compareInt k k':=by simp [rCmp,h1,h2,bne,hk]
   rw [this];exact rCompare_k k n f t k' n' f' t' w hk S1 S2
  | true =>
   obtain rfl : k = k':=by simpa using hk
   cases h3 : (k == 3) with
   | true =>
    obtain rfl : k = 3:=by simpa using h3
    have : rCmp 3 n f t 3 n' f' t' = Lib.compareInt (rKey f) (rKey f'):=by simp [rCmp,h1,h2]
    rw [this];exact rCompare_f n f t n' f' t' w hf hf' S1 S2
   | false =>
    cases h4 : (k == 4) with
    | true =>
     obtain rfl : k = 4:=by simpa using h4
     have : rCmp 4 n f t 4 n' f' t' = Lib.compareBytes t.data.toList t'.data.toList:=by simp [rCmp,h1,h2]
     rw [this];exact rCompare_t n f t n' f' t' w S1 S2
    | false =>
     have : rCmp k n f t k n' f' t' = Lib.compareInt n n':=by simp [rCmp,h1,h2,h3,h4]
     rw [this];exact rCompare_n k n f t n' f' t' w h3 h4 S1 S2
end Go.Proofs.YtakcjiinchghaaaGreatDoor
end
section
namespace Go.Proofs.YtakcjiinchghaaaGreatDoor
set_option linter.unusedVariables false
set_option linter.unusedSimpArgs false
open Go.RowKit
set_option maxRecDepth 100000 in
set_option maxHeartbeats 2000000 in
theorem show_text_c (t : ByteArray) (w : World) (ht : t.size ≤ 4096) (hs : soundV 4 0 0 t = true) : Calls Tryz.prog 51 #[.agg #[.int .i64 4,.int .i64 0,.int .u64 0,.string t]] w fun e w'=>e = .returned (.string ⟨(quotedL t.data.toList).toArray⟩) ∧ Below w.heap.size w w':=by
 go_enter Tryz.func51,Tryz.ntmps51
 go_wp2_with (first | (go_at_call 28;refine (sound_c _ _ _ _ _ ⟨by decide,by decide⟩).mono ?_;rintro e w' ⟨rfl,hb⟩;(try (replace hb:=below_undrew hb));(try (replace hb:=below_undrewN hb));obtain ⟨hc,hf⟩:=bcell hb;(try (have hz0 : w.heap.size < w'.heap.size:=(by have:=hb.size;(try simp at this);omega)));(try (have hz1 : w.heap.size + 1 < w'.heap.size:=(by have:=hb.size;(try simp at this);omega)));(try (have hz2 : w.heap.size + 2 < w'.heap.size:=(by have:=hb.size;(try simp at this);omega)));(try (have hz3 : w.heap.size + 3 < w'.heap.size:=(by have:=hb.size;(try simp at this);omega)))) | (go_at_call 86;refine (quoted_c _ _ ht).mono ?_;rintro e w' ⟨rfl,hb⟩;(try (replace hb:=below_undrew hb));(try (replace hb:=below_undrewN hb));obtain ⟨hc,hf⟩:=bcell hb;(try (have hz0 : w.heap.size < w'.heap.size:=(by have:=hb.size;(try simp at this);omega)));(try (have hz1 : w.heap.size + 1 < w'.heap.size:=(by have:=hb.size;(try simp at this);omega)));(try (have hz2 : w.heap.size + 2 < w'.heap.size:=(by have:=hb.size;(try simp at this);omega)));(try (have hz3 : w.heap.size + 3 < w'.heap.size:=(by have:=hb.size;(try simp at this);omega)))))
 exact bodyPost_ret (v:=.string ⟨(quotedL t.data.toList).toArray⟩) (by simp [results,Tryz.results51,go_sem, *]) rfl ⟨rfl,(by repeat (first | (with_reducible exact Below.refl _ _) | (with_reducible refine below_al ?_ _) | (with_reducible refine below_drewN ?_ _) | (with_reducible refine Below.drew ?_) | (with_reducible refine below_via (by assumption) ?_) | (with_reducible refine below_sc ?_ ?_ _;· (first | (simp;done) | (simp;omega) | omega))))⟩
end Go.Proofs.YtakcjiinchghaaaGreatDoor
end
section
namespace Go.Proofs.YtakcjiinchghaaaGreatDoor
set_option linter.unusedVariables false
set_option linter.unusedSimpArgs false
open Go.RowKit
theorem and63n (b : Nat) : bits .and .u64 (b : Int) 9223372036854775807 = ((b % 9223372036854775808 : Nat) : Int):=by
 show IntKind.u64.wrap (((BitVec.ofInt 64 (b : Int)) &&& (BitVec.ofInt 64 9223372036854775807)).toNat : Int) = _
 rw [BitVec.toNat_and,BitVec.toNat_ofInt,BitVec.toNat_ofInt]
 have e1 : ((9223372036854775807 : Int) % ((2 ^ 64 : Nat) : Int)).toNat = 2 ^ 63 - 1:=by decide
 rw [e1,Nat.and_two_pow_sub_one_eq_mod,IntKind.wrap_u64]
 have e2 : ((2 ^ 64 : Nat) : Int) = 18446744073709551616:=by decide
 rw [e2]
 omega
theorem fNaN_andn (b : Nat) : decide (9218868437227405312 < bits .and .u64 (b : Int) 9223372036854775807) = fNaN b:=by
 rw [and63n,fNaN_iff]
 congr 1
 apply propext
 rw [Int.toNat_natCast];omega
set_option maxRecDepth 100000 in
set_option maxHeartbeats 2000000 in
theorem rIsNaN_n (b : Nat) (w : World) : Calls Tryz.prog 113 #[.int .u64 b] w fun e w'=>e = .returned (.bool (fNaN b)) ∧ w = w':=by
 have h2:=fNaN_andn b
 go_enter Tryz.func113,Tryz.ntmps113
 go_wp2_with fail
 go_ret
 exact ⟨rfl,rfl⟩
set_option maxRecDepth 100000 in
set_option maxHeartbeats 2000000 in
theorem rPlain_n (b : Nat) (w : World) : Calls Tryz.prog 111 #[.int .u64 b] w fun e w' => e = .returned (.int .u64 (plainI b)) ∧ w = w' := by
  have hm : fNaN 9223372036854775808 = false := by kernel_rfl
  go_enter Tryz.func111, Tryz.ntmps111
  go_wp2_with (go_at_call 113; refine (rIsNaN_n _ _).mono ?_; rintro e w' ⟨rfl, rfl⟩)
  · go_ret; refine ⟨?_, rfl⟩
    have hb : (b : Int) = 9223372036854775808 := by have : ((b : Int) == 9223372036854775808) = true := by assumption
                                                    simpa using this
    rw [hb]; rfl
  · go_ret; refine ⟨?_, rfl⟩
    have hN : fNaN b = true := by assumption
    simp only [plainI, hN, if_true]; rfl
  · go_ret; refine ⟨?_, rfl⟩
    have hN : fNaN b = false := by assumption
    have hb : ((b : Int) == 9223372036854775808) = false := by assumption
    simp only [plainI, hN, hb]; rfl
set_option maxRecDepth 100000 in
set_option maxHeartbeats 2000000 in
theorem rOfFloat_n (b : Nat) (w : World) : Calls Tryz.prog 68 #[.int .u64 b] w fun e w'=>e = .returned (.agg #[.int .i64 3,.int .i64 0,.int .u64 (plainI b),.string ⟨#[]⟩]) ∧ Below w.heap.size w w':=by
 go_enter Tryz.func68,Tryz.ntmps68
 go_wp2_with (go_at_call 111;refine (rPlain_n _ _).mono ?_;rintro e w' ⟨rfl,rfl⟩)
 exact bodyPost_ret (v:=.agg #[.int .i64 3,.int .i64 0,.int .u64 (plainI b),.string ⟨#[]⟩]) (by simp [results,Tryz.results68,go_sem]) rfl ⟨rfl,below_box _ _⟩
set_option maxRecDepth 100000 in
set_option maxHeartbeats 2000000 in
theorem rFloats_c (code : Int) (x y : Int) (w : World) : Calls Tryz.prog 74 #[.int .i64 code,.int .u64 x,.int .u64 y] w fun e w'=>e = .returned (.agg #[.int .i64 3,.int .i64 0,.int .u64 (floatS code x.toNat y.toNat),.string ⟨#[]⟩]) ∧ Below w.heap.size w w':=by
 obtain ⟨r1,n1,e1,p1⟩:=run_farith .add (by simp) x.toNat y.toNat (w.alloc (.cells #[.int .i64 0,.int .i64 0,.int .u64 0,.string ⟨#[]⟩] 29))
 obtain ⟨r2,n2,e2,p2⟩:=run_farith .sub (by simp) x.toNat y.toNat (w.alloc (.cells #[.int .i64 0,.int .i64 0,.int .u64 0,.string ⟨#[]⟩] 29))
 obtain ⟨r3,n3,e3,p3⟩:=run_farith .mul (by simp) x.toNat y.toNat (w.alloc (.cells #[.int .i64 0,.int .i64 0,.int .u64 0,.string ⟨#[]⟩] 29))
 obtain ⟨r4,n4,e4,p4⟩:=run_farith .quo (by simp) x.toNat y.toNat (w.alloc (.cells #[.int .i64 0,.int .i64 0,.int .u64 0,.string ⟨#[]⟩] 29))
 have P1:=Lib.hid p1;have P2:=Lib.hid p2;have P3:=Lib.hid p3;have P4:=Lib.hid p4
 clear p1 p2 p3 p4
 have h1:=run_frombits
 have h2:=run_tobits
 go_enter Tryz.func74,Tryz.ntmps74
 go_wp2_with (go_at_call 68;refine (rOfFloat_n _ _).mono ?_;rintro e w' ⟨rfl,hb⟩;(try (replace hb:=below_undrew hb));(try (replace hb:=below_undrewN hb));obtain ⟨hc,hf⟩:=bcell hb;(try (have hz0 : w.heap.size < w'.heap.size:=(by have:=hb.size;(try simp at this);omega)));(try (have hz1 : w.heap.size + 1 < w'.heap.size:=(by have:=hb.size;(try simp at this);omega)));(try (have hz2 : w.heap.size + 2 < w'.heap.size:=(by have:=hb.size;(try simp at this);omega)));(try (have hz3 : w.heap.size + 3 < w'.heap.size:=(by have:=hb.size;(try simp at this);omega))))
 all_goals clear e1 e2 e3 e4 h1 h2
 ·exact bodyPost_ret (v:=.agg #[.int .i64 3,.int .i64 0,.int .u64 (plainI r1),.string ⟨#[]⟩]) (by simp [results,Tryz.results74,go_sem, *]) rfl ⟨by rw [P1.out];simp [floatS,floatBits, *];try rfl,(by repeat (first | (with_reducible exact Below.refl _ _) | (with_reducible refine below_al ?_ _) | (with_reducible refine below_drewN ?_ _) | (with_reducible refine Below.drew ?_) | (with_reducible refine below_via (by assumption) ?_) | (with_reducible refine below_sc ?_ ?_ _;· (first | (simp;done) | (simp;omega) | omega))))⟩
 ·exact bodyPost_ret (v:=.agg #[.int .i64 3,.int .i64 0,.int .u64 (plainI r2),.string ⟨#[]⟩]) (by simp [results,Tryz.results74,go_sem, *]) rfl ⟨by rw [P2.out];simp [floatS,floatBits, *];try rfl,(by repeat (first | (with_reducible exact Below.refl _ _) | (with_reducible refine below_al ?_ _) | (with_reducible refine below_drewN ?_ _) | (with_reducible refine Below.drew ?_) | (with_reducible refine below_via (by assumption) ?_) | (with_reducible refine below_sc ?_ ?_ _;· (first | (simp;done) | (simp;omega) | omega))))⟩
 ·exact bodyPost_ret (v:=.agg #[.int .i64 3,.int .i64 0,.int .u64 (plainI r3),.string ⟨#[]⟩]) (by simp [results,Tryz.results74,go_sem, *]) rfl ⟨by rw [P3.out];simp [floatS,floatBits, *];try rfl,(by repeat (first | (with_reducible exact Below.refl _ _) | (with_reducible refine below_al ?_ _) | (with_reducible refine below_drewN ?_ _) | (with_reducible refine Below.drew ?_) | (with_reducible refine below_via (by assumption) ?_) | (with_reducible refine below_sc ?_ ?_ _;· (first | (simp;done) | (simp;omega) | omega))))⟩
 ·exact bodyPost_ret (v:=.agg #[.int .i64 3,.int .i64 0,.int .u64 (plainI r4),.string ⟨#[]⟩]) (by simp [results,Tryz.results74,go_sem, *]) rfl ⟨by rw [P4.out];simp [floatS,floatBits, *];try rfl,(by repeat (first | (with_reducible exact Below.refl _ _) | (with_reducible refine below_al ?_ _) | (with_reducible refine below_drewN ?_ _) | (with_reducible refine Below.drew ?_) | (with_reducible refine below_via (by assumption) ?_) | (with_reducible refine below_sc ?_ ?_ _;· (first | (simp;done) | (simp;omega) | omega))))⟩
/-- a door's answer as numbers and a text -/
def tupD (r : Except Int V) : Int × Int × Int × ByteArray × Int:=((resV r).1.k,(resV r).1.n,(resV r).1.f,(resV r).1.t,(resV r).2)
end Go.Proofs.YtakcjiinchghaaaGreatDoor
end
section
namespace Go.Proofs.YtakcjiinchghaaaGreatDoor
set_option linter.unusedVariables false
set_option linter.unusedSimpArgs false
open Go.RowKit
def dB64 : List Int:=[0,1,56,2,57,49,28,3,61,58,42,50,38,29,17,4,62,47,59,36,45,43,51,22,53,39,33,30,24,18,12,5,63,55,48,27,60,41,37,16,46,35,44,21,52,32,23,11,54,26,40,15,34,20,31,10,25,14,19,9,13,8,7,6]
/-- the table of the lowest bits holds what its initialiser lays -/
def TabD (w : World) : Prop := Lib.TabIs Tryz.prog w "math/bits.deBruijn64tab" .u8 dB64
theorem TabD.below {w w' : World} (h : TabD w) (hb : Below w.heap.size w w') : TabD w':=Lib.tabBelow_of_tabIs h w' hb
theorem gDB : Tryz.prog.globalNamed "math/bits.deBruijn64tab" = some 4 := by kernel_rfl
/-- the digits, the highest first -/
def hexS : Nat → Nat → List UInt8
 | 0,_=>[]
 | k + 1,u=>if u < 16 then [hexD u] else hexS k (u / 16) ++ [hexD (u % 16)]
/-- just n digits -/
def hexP : Nat → Nat → List UInt8
 | 0,_=>[]
 | n + 1,u=>hexP n (u / 16) ++ [hexD (u % 16)]
theorem hexS_len (k u : Nat) : (hexS k u).length ≤ k:=by
 induction k generalizing u with
 | zero=>simp [hexS]
 | succ k ih=>unfold hexS;split <;> simp;have:=ih (u / 16);omega
theorem hexP_zero (n : Nat) : hexP n 0 = List.replicate n 48:=by
 induction n with
 | zero=>rfl
 | succ n ih=>simp only [hexP,Nat.zero_div,ih,Nat.zero_mod];rw [List.replicate_succ'];rfl
theorem hexP_S (n u : Nat) (h : u < 16 ^ n) : List.replicate (n - (hexS n u).length) 48 ++ hexS n u = hexP n u:=by
 induction n generalizing u with
 | zero=>simp [hexS,hexP]
 | succ n ih =>
  unfold hexS hexP
  split
  ·have h1 : u / 16 = 0:=by omega
   have h2 : u % 16 = u:=by omega
   rw [h1,h2,hexP_zero];simp
  ·have:=ih (u / 16) (by rw [Nat.pow_succ] at h;omega)
   rw [← this,List.length_append]
   simp only [List.length_cons,List.length_nil,List.append_assoc]
   have hl:=hexS_len n (u / 16)
   congr 2
   omega
theorem and15u (x : Nat) (h : x < 18446744073709551616) : bits .and .u64 (x : Int) 15 = (x : Int) % 16:=by
 have:=bits_mask .u64 64 (by decide) wraps_u64 4 (by decide) (x : Int) (by omega) (by omega)
 simpa using this
def hexZ : ByteArray:=⟨#[48,49,50,51,52,53,54,55,56,57,97,98,99,100,101,102,103,104,105,106,107,108,109,110,111,112,113,114,115,116,117,118,119,120,121,122]⟩
theorem hexZ_get (n : Nat) (h : n < 16) : hexZ.data[n]? = some (hexD n):=by
 have : ∀ n : Fin 16,hexZ.data[n.1]? = some (hexD n.1):=by decide
 exact this ⟨n,h⟩
theorem hexZ_size : hexZ.size = 36:=rfl
theorem hexZ_at (n : Nat) (h : n < 16) : hexZ[n]'(by rw [hexZ_size];omega) = hexD n:=by
 have h2:=hexZ_get n h
 have hlt : n < hexZ.size:=by rw [hexZ_size];omega
 have : hexZ.data[n]? = some hexZ[n]:=by rw [Array.getElem?_eq_getElem];rfl
 rw [this] at h2;exact Option.some.inj h2
theorem idx_hexZ (n : Nat) (h : n < 16) (m : Int) (hm : m = (n : Int)) (w : World) : (Instr.index 9 (.string ⟨#[48,49,50,51,52,53,54,55,56,57,97,98,99,100,101,102,103,104,105,106,107,108,109,110,111,112,113,114,115,116,117,118,119,120,121,122]⟩) (.int .u64 m)).run Tryz.prog w = .ok (.int .u8 (hexD n).toNat) w:=by
 have h1 : (⟨#[48,49,50,51,52,53,54,55,56,57,97,98,99,100,101,102,103,104,105,106,107,108,109,110,111,112,113,114,115,116,117,118,119,120,121,122]⟩ : ByteArray) = hexZ:=rfl
 subst hm
 rw [h1]
 have h2:=hexZ_get n h
 have hz:=hexZ_size
 have hlt : n < hexZ.size:=by omega
 have hg : hexZ[n] = hexD n:=by
  have : hexZ.data[n]? = some hexZ[n]:=by rw [Array.getElem?_eq_getElem];rfl
  rw [this] at h2;exact Option.some.inj h2
 have hlt' : ¬ 36 ≤ n:=by omega
 go_simp
 intro hh;exfalso;omega
set_option maxRecDepth 100000 in
set_option maxHeartbeats 2000000 in
theorem pow2_c (w : World) : Calls Tryz.prog 170 #[.int .i64 16] w fun e w'=>e = .returned (.bool true) ∧ w = w':=by
 have hb : bits .and .i64 16 15 = 0:=by decide +kernel
 go_enter Tryz.func170,Tryz.ntmps170
 go_wp2_with fail
 go_ret
 exact ⟨by simp,rfl⟩
set_option maxRecDepth 100000 in
set_option maxHeartbeats 2000000 in
theorem tz64_c (w : World) (ht : TabD w) : Calls Tryz.prog 177 #[.int .u64 16] w fun e w'=>e = .returned (.int .i64 4) ∧ w = w':=by
 have hcell:=Lib.TabIs.cell ht gDB 15 (by decide)
 have hv : dB64.getD 15 0 = 4:=by decide
 rw [hv] at hcell
 have hk : bits .and .u64 16 (IntKind.u64.wrap (-16)) = 16:=by decide +kernel
 have hw : IntKind.u64.wrap (16 * 285870213051353865) = 4573923408821661840:=by decide +kernel
 go_enter Tryz.func177,Tryz.ntmps177
 go_wp2_with fail
 go_ret
 exact ⟨by simp,rfl⟩
set_option maxRecDepth 100000 in
set_option maxHeartbeats 2000000 in
theorem tz_c (w : World) (ht : TabD w) : Calls Tryz.prog 171 #[.int .u64 16] w fun e w'=>e = .returned (.int .i64 4) ∧ w = w':=by
 go_enter Tryz.func171,Tryz.ntmps171
 go_wp2_with (go_at_call 177;refine (tz64_c _ ht).mono ?_;rintro e w' ⟨rfl,rfl⟩)
 go_ret
 exact ⟨rfl,rfl⟩
theorem andm (x : Nat) (h : x < 18446744073709551616) : (bits .and .u64 (x : Int) 15) = ((x % 16 : Nat) : Int):=by rw [and15u x h];simp
/-- the array behind the digits l, from place m on -/
def HexAt (g m : Nat) (l : List UInt8) (wr : World) : Prop :=
 (∀ j,j < 65 → ∃ v,wr.cell? ⟨g,j,none⟩ = some v) ∧ (∀ j c,l[j]? = some c → wr.cell? ⟨g,m + j,none⟩ = some (.int .u8 c.toNat)) ∧ ∀ j,wr.frozen? ⟨g,j,none⟩ = false
theorem HexAt.put {g m : Nat} {l : List UInt8} {wr : World} (h : HexAt g (m + 1) l wr) (hm : m < 65) (c : UInt8) : HexAt g m (c :: l) (wr.setCell ⟨g,m,none⟩ (.int .u8 c.toNat)):=by
 obtain ⟨h1,h2,h3⟩:=h
 refine ⟨fun j hj=>?_,fun j d hd=>?_,fun j=>by simp [h3]⟩
 ·by_cases e : j = m
  ·subst e;obtain ⟨v,hv⟩:=h1 j hj;exact ⟨_,World.cell?_setCell_same _ _ _ hv⟩
  ·obtain ⟨v,hv⟩:=h1 j hj
   exact ⟨v,by rw [World.cell?_setCell_other _ _ _ _ (fun x=>e (by injection x with _ x;exact x.symm))];exact hv⟩
 ·cases j with
  | zero =>
   simp at hd;subst hd
   obtain ⟨v,hv⟩:=h1 m hm;exact World.cell?_setCell_same _ _ _ hv
  | succ j =>
   simp at hd
   rw [World.cell?_setCell_other _ _ _ _ (fun x=>by injection x with _ x;omega),show m + (j + 1) = m + 1 + j by omega]
   exact h2 j d hd
theorem hexAt_new (w : World) (cs : Array Value) (T : TypeId) (h : cs.size = 65) : HexAt w.heap.size 65 [] (w.alloc (.cells cs T)):=by
 have hn:=heap_alloc_new w (.cells cs T)
 refine ⟨fun j hj=>?_,fun j c hc=>by simp at hc,fun j=>Lib.frozen_of_heap hn j⟩
 exact ⟨cs[j],by rw [Lib.cell_of_heap hn j];simp [Array.getElem?_eq_getElem,h,hj]⟩
theorem hex_two {v n : Nat} (h : v < 16 ^ (16 - n)) (hv : 16 ≤ v) : n + 1 ≤ 15:=by
 by_cases h1 : n + 1 ≤ 15
 ·exact h1
 ·exfalso
  have : 16 - n = 0 ∨ 16 - n = 1:=by omega
  rcases this with e | e <;> rw [e] at h <;> omega
theorem HexAt.drew {g m : Nat} {l : List UInt8} {wr : World} (h : HexAt g m l wr) : HexAt g m l wr.drew:=h
set_option maxRecDepth 100000 in
set_option maxHeartbeats 2000000 in
theorem fmtBits_c (u : Nat) (w : World) (hu : u < 18446744073709551616) (ht : TabD w) :
  Calls Tryz.prog 156 #[.slice none 0 0,.int .u64 u,.int .i64 16,.bool false,.bool false] w fun e w'=>e = .returned (.tuple #[.slice none 0 0,.string ⟨(hexS 16 u).toArray⟩]) ∧ Below w.heap.size w w':=by
 go_enter Tryz.func156,Tryz.ntmps156
 go_wp2_with (first | (go_at_call 170;refine (pow2_c _).mono ?_;rintro e w' ⟨rfl,rfl⟩) | (go_at_call 171;refine (tz_c _ (ht.below (by repeat (first | (with_reducible exact Below.refl _ _) | (with_reducible refine below_al ?_ _) | (with_reducible refine below_drewN ?_ _) | (with_reducible refine Below.drew ?_) | (with_reducible refine below_via (by assumption) ?_) | (with_reducible refine below_sc ?_ ?_ _;· (first | (simp;done) | (simp;omega) | omega)))))).mono ?_;rintro e w' ⟨rfl,rfl⟩))
 have hB0 : Below w.heap.size w (w.alloc (.cells (Array.replicate 65 (.int .u8 0)) 201)):=below_box _ _
 go_loopw [1,13] (fun x i wr=>∃ (m v : Nat) (l : List UInt8),x = .int .u64 v ∧ i = .int .i64 m ∧ m + l.length = 65 ∧ l.length ≤ 15 ∧ v < 16 ^ (16 - l.length) ∧ v < 18446744073709551616 ∧ Hid (hexS 16 u = hexS (16 - l.length) v ++ l) ∧ HexAt w.heap.size m l wr ∧ Below w.heap.size w wr) (fun x _ _=>(intOf x).toNat)
 case atStart=>exact ⟨65,u,[],rfl,rfl,rfl,by simp,by simp;omega,hu,Lib.hid (by simp),hexAt_new _ _ _ (by simp),below_box _ _⟩
 case round =>
  obtain ⟨m,v,l,rfl,rfl,hm,hl,hv,hv64,HE,hA,hBel⟩:=hrel
  obtain ⟨m,rfl⟩ : ∃ q,m = q + 1:=⟨m - 1,by omega⟩
  obtain ⟨old,hold⟩:=hA.1 m (by omega)
  have hfz:=hA.2.2 m
  have ha:=andm v hv64
  have hHA:=Lib.hid hA;clear hA
  have hmm : m < 65:=by omega
  have hll : l.length = 65 - (m + 1):=by omega
  have HL:=Lib.hid hll;clear hll hm
  have HV:=Lib.hid hv;clear hv
  by_cases hc : 16 ≤ v
  ·have hx:=fun w=>idx_hexZ (v % 16) (by omega) ((v % 16 : Nat) : Int) rfl w
   go_wp2_with fail
   go_roundw
   case rel =>
    have h2:=hex_two HV.out hc
    refine ⟨m,v / 16,hexD (v % 16) :: l,by go_num,by go_num, ?_, ?_, ?_,by omega, ?_, ?_, ?_⟩
    ·have:=HL.out;simp;omega
    ·simp;omega
    ·have h3:=HV.out
     rw [List.length_cons,show 16 - l.length = (16 - (l.length + 1)) + 1 by omega,Nat.pow_succ] at *
     omega
    ·refine Lib.hid ?_
     rw [HE.out,List.length_cons,show 16 - l.length = (16 - (l.length + 1)) + 1 by omega,hexS,if_neg (by omega)]
     simp
    ·rw [← hexZ_at (v % 16) (by omega)];exact hHA.out.put hmm _
    ·exact below_sc (p:=⟨w.heap.size,m,none⟩) (Nat.le_refl _) hBel _
   case measure=>simp [intOf];omega
  ·have hx:=fun w=>idx_hexZ v (by omega) (v : Int) rfl w
   have hA2:=(hHA.out.put hmm (hexD v))
   have hcv : ∀ cap,(convert 120 9 (.slice (some ⟨w.heap.size,m,none⟩) (65 - m) cap)).run Tryz.prog (wr.setCell ⟨w.heap.size,m,none⟩ (.int .u8 (hexD v).toNat)) = .ok (.string ⟨(hexD v :: l).toArray⟩) (wr.setCell ⟨w.heap.size,m,none⟩ (.int .u8 (hexD v).toNat)):=fun cap=>by
    have:=run_convert_bytes_back (P:=Tryz.prog) (wr.setCell ⟨w.heap.size,m,none⟩ (.int .u8 (hexD v).toNat)) 120 9 5 ⟨w.heap.size,m,none⟩ cap (hexD v :: l) Tryz.underlying120 Tryz.underlying5 Tryz.underlying9 (fun j hj=>by
     have:=hA2.2.1 j (hexD v :: l)[j] (List.getElem?_eq_getElem hj)
     rw [← this];congr 1;unfold Addr.add;split <;> simp_all)
    rw [show (hexD v :: l).length = 65 - m by have:=HL.out;simp;omega] at this
    exact this
   have hfin : hexS 16 u = hexD v :: l:=by
    rw [HE.out,show 16 - l.length = (15 - l.length) + 1 by omega,hexS,if_pos (by omega)];rfl
   have HF:=Lib.hid hfin;clear hfin hA2
   have hcv':=hcv (65 - m);clear hcv
   have hal : Tryz.prog.arrayLen 201 = 65:=by kernel_rfl
   have hm0 : (0 : Int) ≤ m:=by omega
   have hm1 : (m : Int) ≤ 65:=by omega
   go_wp2_with fail
   go_ret2
   exact ⟨by rw [HF.out];rfl,below_sc (p:=⟨w.heap.size,m,none⟩) (Nat.le_refl _) hBel _⟩
set_option maxRecDepth 100000 in
set_option maxHeartbeats 2000000 in
theorem fmtUint_c (u : Nat) (w : World) (hu : u < 18446744073709551616) (ht : TabD w) : Calls Tryz.prog 133 #[.int .u64 u,.int .i64 16] w fun e w'=>e = .returned (.string ⟨(hexS 16 u).toArray⟩) ∧ Below w.heap.size w w':=by
 go_enter Tryz.func133,Tryz.ntmps133
 go_wp2_with (go_at_call 156;refine (fmtBits_c _ _ hu ht).mono ?_;rintro e w' ⟨rfl,hb⟩;(try (replace hb:=below_undrew hb));(try (replace hb:=below_undrewN hb));obtain ⟨hc,hf⟩:=bcell hb;(try (have hz0 : w.heap.size < w'.heap.size:=(by have:=hb.size;(try simp at this);omega)));(try (have hz1 : w.heap.size + 1 < w'.heap.size:=(by have:=hb.size;(try simp at this);omega)));(try (have hz2 : w.heap.size + 2 < w'.heap.size:=(by have:=hb.size;(try simp at this);omega)));(try (have hz3 : w.heap.size + 3 < w'.heap.size:=(by have:=hb.size;(try simp at this);omega))))
 go_ret
 exact ⟨rfl,(by repeat (first | (with_reducible exact Below.refl _ _) | (with_reducible refine below_al ?_ _) | (with_reducible refine below_drewN ?_ _) | (with_reducible refine Below.drew ?_) | (with_reducible refine below_via (by assumption) ?_) | (with_reducible refine below_sc ?_ ?_ _;· (first | (simp;done) | (simp;omega) | omega))))⟩
set_option maxRecDepth 100000 in
set_option maxHeartbeats 2000000 in
theorem sFmtUint_c (u : Nat) (w : World) (hu : u < 18446744073709551616) (ht : TabD w) : Calls Tryz.prog 87 #[.int .u64 u,.int .i64 16] w fun e w'=>e = .returned (.string ⟨(hexS 16 u).toArray⟩) ∧ Below w.heap.size w w':=by
 go_enter Tryz.func87,Tryz.ntmps87
 go_wp2_with (go_at_call 133;refine (fmtUint_c _ _ hu ht).mono ?_;rintro e w' ⟨rfl,hb⟩;(try (replace hb:=below_undrew hb));(try (replace hb:=below_undrewN hb));obtain ⟨hc,hf⟩:=bcell hb;(try (have hz0 : w.heap.size < w'.heap.size:=(by have:=hb.size;(try simp at this);omega)));(try (have hz1 : w.heap.size + 1 < w'.heap.size:=(by have:=hb.size;(try simp at this);omega)));(try (have hz2 : w.heap.size + 2 < w'.heap.size:=(by have:=hb.size;(try simp at this);omega)));(try (have hz3 : w.heap.size + 3 < w'.heap.size:=(by have:=hb.size;(try simp at this);omega))))
 go_ret
 exact ⟨rfl,(by repeat (first | (with_reducible exact Below.refl _ _) | (with_reducible refine below_al ?_ _) | (with_reducible refine below_drewN ?_ _) | (with_reducible refine Below.drew ?_) | (with_reducible refine below_via (by assumption) ?_) | (with_reducible refine below_sc ?_ ?_ _;· (first | (simp;done) | (simp;omega) | omega))))⟩
end Go.Proofs.YtakcjiinchghaaaGreatDoor
end
section
namespace Go.Proofs.YtakcjiinchghaaaGreatDoor
set_option linter.unusedVariables false
set_option linter.unusedSimpArgs false
open Go.RowKit
/-- a value's text -/
def showL (k n f : Int) (t : ByteArray) : List UInt8 :=
 if !soundV k n f t then [] else if k = 0 then [78,85,76,76] else if k = 1 then Lib.formatBool (n == 1) else if k = 2 then Lib.itoa n
 else if k = 4 then quotedL t.data.toList else [48,120] ++ hexP 16 f.toNat
theorem repL (c : Nat) : Lib.repeatL (⟨#[48]⟩ : ByteArray).data.toList c = List.replicate c 48:=by
 induction c with
 | zero=>rfl
 | succ c ih=>rw [List.replicate_succ,← ih];rfl
theorem rep_c (c : Int) (w : World) (h0 : 0 ≤ c) (h1 : c ≤ 16) : Calls Tryz.prog 88 #[.string ⟨#[48]⟩,.int .i64 c] w fun e w'=>e = .returned (.string ⟨(List.replicate c.toNat 48).toArray⟩) ∧ Below w.heap.size w w':=by
 obtain ⟨n,rfl⟩:=Int.eq_ofNat_of_zero_le h0
 rw [show ((n : Int)).toNat = n from rfl,← repL n]
 exact Tryz.strings_Repeat ⟨#[48]⟩ n w (by omega) (by show 1 * n ≤ _;omega)
set_option maxRecDepth 100000 in
set_option maxHeartbeats 2000000 in
theorem show_no (k n f : Int) (t : ByteArray) (w : World) (hn : I64 n) (hs : soundV k n f t = false) : Calls Tryz.prog 51 #[.agg #[.int .i64 k,.int .i64 n,.int .u64 f,.string t]] w fun e w'=>e = .returned (.string ⟨#[]⟩) ∧ Below w.heap.size w w':=by
 have S:=Lib.hid (fun w=>sound_c k n f t w hn);rw [hs] at S;clear hs
 go_enter Tryz.func51,Tryz.ntmps51
 go_wp2_with (first | (go_at_call 28;(fail_if_success (have:=w1));((with_reducible refine (S.out _).mono ?_);rintro e w1 ⟨rfl,hb1⟩;(try (replace hb1:=below_undrew hb1));(try (replace hb1:=below_undrewN hb1));obtain ⟨hc1,hf1⟩:=bcell hb1;(try (have hz0_1 : w.heap.size < w1.heap.size:=(by have:=hb1.size;(try simp at this);omega))))))
 go_ret;exact ⟨rfl,(by repeat (first | (with_reducible exact Below.refl _ _) | (with_reducible refine below_al ?_ _) | (with_reducible refine below_drewN ?_ _) | (with_reducible refine Below.drew ?_) | (with_reducible refine below_via (by assumption) ?_) | (with_reducible refine below_sc ?_ ?_ _;· (first | (simp;done) | (simp;omega) | omega))))⟩
set_option maxRecDepth 100000 in
set_option maxHeartbeats 2000000 in
theorem show_null (n f : Int) (t : ByteArray) (w : World) (hn : I64 n) (hs : soundV 0 n f t = true) : Calls Tryz.prog 51 #[.agg #[.int .i64 0,.int .i64 n,.int .u64 f,.string t]] w fun e w'=>e = .returned (.string ⟨#[78,85,76,76]⟩) ∧ Below w.heap.size w w':=by
 have S:=Lib.hid (fun w=>sound_c 0 n f t w hn);rw [hs] at S;clear hs
 go_enter Tryz.func51,Tryz.ntmps51
 go_wp2_with (first | (go_at_call 28;(fail_if_success (have:=w1));((with_reducible refine (S.out _).mono ?_);rintro e w1 ⟨rfl,hb1⟩;(try (replace hb1:=below_undrew hb1));(try (replace hb1:=below_undrewN hb1));obtain ⟨hc1,hf1⟩:=bcell hb1;(try (have hz0_1 : w.heap.size < w1.heap.size:=(by have:=hb1.size;(try simp at this);omega))))))
 go_ret;exact ⟨rfl,(by repeat (first | (with_reducible exact Below.refl _ _) | (with_reducible refine below_al ?_ _) | (with_reducible refine below_drewN ?_ _) | (with_reducible refine Below.drew ?_) | (with_reducible refine below_via (by assumption) ?_) | (with_reducible refine below_sc ?_ ?_ _;· (first | (simp;done) | (simp;omega) | omega))))⟩
set_option maxRecDepth 100000 in
set_option maxHeartbeats 2000000 in
theorem show_bool (n f : Int) (t : ByteArray) (w : World) (hn : I64 n) (hs : soundV 1 n f t = true) : Calls Tryz.prog 51 #[.agg #[.int .i64 1,.int .i64 n,.int .u64 f,.string t]] w fun e w'=>e = .returned (.string ⟨(Lib.formatBool (n == 1)).toArray⟩) ∧ Below w.heap.size w w':=by
 have S:=Lib.hid (fun w=>sound_c 1 n f t w hn);rw [hs] at S;clear hs
 go_enter Tryz.func51,Tryz.ntmps51
 go_wp2_with (first | (first | (go_at_call 28;(fail_if_success (have:=w1));((with_reducible refine (S.out _).mono ?_);rintro e w1 ⟨rfl,hb1⟩;(try (replace hb1:=below_undrew hb1));(try (replace hb1:=below_undrewN hb1));obtain ⟨hc1,hf1⟩:=bcell hb1;(try (have hz0_1 : w.heap.size < w1.heap.size:=(by have:=hb1.size;(try simp at this);omega)))))) | (go_at_call 85;((with_reducible refine (Tryz.strconv_FormatBool _ _).mono ?_);rintro e w' ⟨rfl,rfl⟩)))
 go_ret;exact ⟨rfl,(by repeat (first | (with_reducible exact Below.refl _ _) | (with_reducible refine below_al ?_ _) | (with_reducible refine below_drewN ?_ _) | (with_reducible refine Below.drew ?_) | (with_reducible refine below_via (by assumption) ?_) | (with_reducible refine below_sc ?_ ?_ _;· (first | (simp;done) | (simp;omega) | omega))))⟩
set_option maxRecDepth 100000 in
set_option maxHeartbeats 2000000 in
theorem show_int (n f : Int) (t : ByteArray) (w : World) (hn : I64 n) (ht : Tab w) (hs : soundV 2 n f t = true) : Calls Tryz.prog 51 #[.agg #[.int .i64 2,.int .i64 n,.int .u64 f,.string t]] w fun e w'=>e = .returned (.string ⟨(Lib.itoa n).toArray⟩) ∧ Below w.heap.size w w':=by
 have S:=Lib.hid (fun w=>sound_c 2 n f t w hn);rw [hs] at S;clear hs
 have I:=Lib.hid (fun w=>itoa_c n w hn);clear hn
 go_enter Tryz.func51,Tryz.ntmps51
 go_wp2_with (first | (go_at_call 28;(fail_if_success (have:=w1));((with_reducible refine (S.out _).mono ?_);rintro e w1 ⟨rfl,hb1⟩;(try (replace hb1:=below_undrew hb1));(try (replace hb1:=below_undrewN hb1));obtain ⟨hc1,hf1⟩:=bcell hb1;(try (have hz0_1 : w.heap.size < w1.heap.size:=(by have:=hb1.size;(try simp at this);omega))))) | (go_at_call 50;(fail_if_success (have:=w1));((with_reducible refine (I.out _ (ht.below (by repeat (first | (with_reducible exact Below.refl _ _) | (with_reducible refine below_al ?_ _) | (with_reducible refine below_drewN ?_ _) | (with_reducible refine Below.drew ?_) | (with_reducible refine below_via (by assumption) ?_) | (with_reducible refine below_sc ?_ ?_ _;· (first | (simp;done) | (simp;omega) | omega)))))).mono ?_);rintro e w1 ⟨rfl,hb1⟩;(try (replace hb1:=below_undrew hb1));(try (replace hb1:=below_undrewN hb1));obtain ⟨hc1,hf1⟩:=bcell hb1;(try (have hz0_1 : w.heap.size < w1.heap.size:=(by have:=hb1.size;(try simp at this);omega))))) | (go_at_call 28;(fail_if_success (have:=w2));((with_reducible refine (S.out _).mono ?_);rintro e w2 ⟨rfl,hb2⟩;(try (replace hb2:=below_undrew hb2));(try (replace hb2:=below_undrewN hb2));obtain ⟨hc2,hf2⟩:=bcell hb2;(try (have hz0_2 : w.heap.size < w2.heap.size:=(by have:=hb2.size;(try simp at this);omega)));(try (have hz_1_2 : w1.heap.size < w2.heap.size:=(by have:=hb2.size;(try simp at this);omega))))) | (go_at_call 50;(fail_if_success (have:=w2));((with_reducible refine (I.out _ (ht.below (by repeat (first | (with_reducible exact Below.refl _ _) | (with_reducible refine below_al ?_ _) | (with_reducible refine below_drewN ?_ _) | (with_reducible refine Below.drew ?_) | (with_reducible refine below_via (by assumption) ?_) | (with_reducible refine below_sc ?_ ?_ _;· (first | (simp;done) | (simp;omega) | omega)))))).mono ?_);rintro e w2 ⟨rfl,hb2⟩;(try (replace hb2:=below_undrew hb2));(try (replace hb2:=below_undrewN hb2));obtain ⟨hc2,hf2⟩:=bcell hb2;(try (have hz0_2 : w.heap.size < w2.heap.size:=(by have:=hb2.size;(try simp at this);omega)));(try (have hz_1_2 : w1.heap.size < w2.heap.size:=(by have:=hb2.size;(try simp at this);omega))))))
 go_ret;exact ⟨rfl,(by repeat (first | (with_reducible exact Below.refl _ _) | (with_reducible refine below_al ?_ _) | (with_reducible refine below_drewN ?_ _) | (with_reducible refine Below.drew ?_) | (with_reducible refine below_via (by assumption) ?_) | (with_reducible refine below_sc ?_ ?_ _;· (first | (simp;done) | (simp;omega) | omega))))⟩
set_option maxRecDepth 100000 in
set_option maxHeartbeats 2000000 in
theorem show_float (n : Int) (f : Nat) (t : ByteArray) (w : World) (hn : I64 n) (hf : f < 18446744073709551616) (hd : TabD w) (hs : soundV 3 n f t = true) : Calls Tryz.prog 51 #[.agg #[.int .i64 3,.int .i64 n,.int .u64 f,.string t]] w fun e w'=>e = .returned (.string ⟨([48,120] ++ hexP 16 f).toArray⟩) ∧ Below w.heap.size w w':=by
 have S:=Lib.hid (fun w=>sound_c 3 n f t w hn);rw [hs] at S;clear hs hn
 have hl:=hexS_len 16 f
 have HP:=Lib.hid (hexP_S 16 f (by simpa using hf))
 have F:=Lib.hid (fun w=>sFmtUint_c f w hf);clear hf
 go_enter Tryz.func51,Tryz.ntmps51
 go_wp2_with (first | (first | (go_at_call 28;(fail_if_success (have:=w1));((with_reducible refine (S.out _).mono ?_);rintro e w1 ⟨rfl,hb1⟩;(try (replace hb1:=below_undrew hb1));(try (replace hb1:=below_undrewN hb1));obtain ⟨hc1,hf1⟩:=bcell hb1;(try (have hz0_1 : w.heap.size < w1.heap.size:=(by have:=hb1.size;(try simp at this);omega))))) | (go_at_call 87;(fail_if_success (have:=w1));((with_reducible refine (F.out _ (hd.below (by repeat (first | (with_reducible exact Below.refl _ _) | (with_reducible refine below_al ?_ _) | (with_reducible refine below_drewN ?_ _) | (with_reducible refine Below.drew ?_) | (with_reducible refine below_via (by assumption) ?_) | (with_reducible refine below_sc ?_ ?_ _;· (first | (simp;done) | (simp;omega) | omega)))))).mono ?_);rintro e w1 ⟨rfl,hb1⟩;(try (replace hb1:=below_undrew hb1));(try (replace hb1:=below_undrewN hb1));obtain ⟨hc1,hf1⟩:=bcell hb1;(try (have hz0_1 : w.heap.size < w1.heap.size:=(by have:=hb1.size;(try simp at this);omega))))) | (go_at_call 28;(fail_if_success (have:=w2));((with_reducible refine (S.out _).mono ?_);rintro e w2 ⟨rfl,hb2⟩;(try (replace hb2:=below_undrew hb2));(try (replace hb2:=below_undrewN hb2));obtain ⟨hc2,hf2⟩:=bcell hb2;(try (have hz0_2 : w.heap.size < w2.heap.size:=(by have:=hb2.size;(try simp at this);omega)));(try (have hz_1_2 : w1.heap.size < w2.heap.size:=(by have:=hb2.size;(try simp at this);omega))))) | (go_at_call 87;(fail_if_success (have:=w2));((with_reducible refine (F.out _ (hd.below (by repeat (first | (with_reducible exact Below.refl _ _) | (with_reducible refine below_al ?_ _) | (with_reducible refine below_drewN ?_ _) | (with_reducible refine Below.drew ?_) | (with_reducible refine below_via (by assumption) ?_) | (with_reducible refine below_sc ?_ ?_ _;· (first | (simp;done) | (simp;omega) | omega)))))).mono ?_);rintro e w2 ⟨rfl,hb2⟩;(try (replace hb2:=below_undrew hb2));(try (replace hb2:=below_undrewN hb2));obtain ⟨hc2,hf2⟩:=bcell hb2;(try (have hz0_2 : w.heap.size < w2.heap.size:=(by have:=hb2.size;(try simp at this);omega)));(try (have hz_1_2 : w1.heap.size < w2.heap.size:=(by have:=hb2.size;(try simp at this);omega)))))) | (go_at_call 88;((with_reducible refine (rep_c _ _ (by omega) (by omega)).mono ?_);rintro e w3 ⟨rfl,hb⟩;obtain ⟨hc,hf⟩:=bcell hb)))
 go_ret
 refine ⟨congrArg (fun x=>Ending.returned (Value.string x)) ?_,(by repeat (first | (with_reducible exact Below.refl _ _) | (with_reducible refine below_al ?_ _) | (with_reducible refine below_drewN ?_ _) | (with_reducible refine Below.drew ?_) | (with_reducible refine below_via (by assumption) ?_) | (with_reducible refine below_sc ?_ ?_ _;· (first | (simp;done) | (simp;omega) | omega))))⟩
 rw [← HP.out]
 apply ByteArray.ext
 simp
theorem show_c (k n f : Int) (t : ByteArray) (w : World) (hn : I64 n) (hf : U64 f) (ht : Tab w) (hd : TabD w) : Calls Tryz.prog 51 #[.agg #[.int .i64 k,.int .i64 n,.int .u64 f,.string t]] w fun e w'=>e = .returned (.string ⟨(showL k n f t).toArray⟩) ∧ Below w.heap.size w w':=by
 obtain ⟨h0,h1⟩:=hf
 cases hs : soundV k n f t with
 | false =>
  have : showL k n f t = []:=by simp [showL,hs]
  rw [this];exact show_no k n f t w hn hs
 | true =>
  have hk : k = 0 ∨ k = 1 ∨ k = 2 ∨ k = 3 ∨ k = 4:=by
   unfold soundV at hs
   by_cases a0 : k = 0;· simp [a0]
   by_cases a1 : k = 1;· simp [a1]
   by_cases a2 : k = 2;· simp [a2]
   by_cases a3 : k = 3;· simp [a3]
   by_cases a4 : k = 4;· simp [a4]
   simp [a0,a1,a2,a3,a4] at hs
  rcases hk with rfl | rfl | rfl | rfl | rfl
  ·have : showL 0 n f t = [78,85,76,76]:=by simp [showL,hs]
   rw [this];exact show_null n f t w hn hs
  ·have : showL 1 n f t = Lib.formatBool (n == 1):=by simp [showL,hs]
   rw [this];exact show_bool n f t w hn hs
  ·have : showL 2 n f t = Lib.itoa n:=by simp [showL,hs]
   rw [this];exact show_int n f t w hn ht hs
  ·have : showL 3 n f t = [48,120] ++ hexP 16 f.toNat:=by simp [showL,hs]
   rw [this]
   obtain ⟨m,rfl⟩:=Int.eq_ofNat_of_zero_le h0
   exact show_float n m t w hn (by omega) hd hs
  ·have : showL 4 n f t = quotedL t.data.toList:=by simp [showL,hs]
   rw [this]
   have e:=hs
   simp [soundV,eqV] at e
   obtain ⟨⟨rfl,rfl⟩,h4⟩:=e
   exact show_text_c t w h4 hs
end Go.Proofs.YtakcjiinchghaaaGreatDoor
end
section
namespace Go.Proofs.YtakcjiinchghaaaGreatDoor
set_option linter.unusedVariables false
set_option linter.unusedSimpArgs false
open Go.RowKit
theorem ci_congr {a b c d : Int} (h1 : a < b ↔ c < d) (h2 : b < a ↔ d < c) : Lib.compareInt a b = Lib.compareInt c d:=by
 unfold Lib.compareInt
 by_cases x : a < b
 ·rw [if_pos x,if_pos (h1.1 x)]
 ·rw [if_neg x,if_neg (fun y=>x (h1.2 y))]
  by_cases z : b < a
  ·rw [if_pos z,if_pos (h2.1 z)]
  ·rw [if_neg z,if_neg (fun y=>z (h2.2 y))]
theorem fkey_lt {x y : Int} (ux : 0 ≤ x ∧ x < 18446744073709551616) (uy : 0 ≤ y ∧ y < 18446744073709551616) (px : plainI x = x) (py : plainI y = y) : fkey x.toNat < fkey y.toNat ↔ rKey x < rKey y:=by
 have lx:=sr_lt x.toNat
 have ly:=sr_lt y.toNat
 have cx : ∀ x : Int,0 ≤ x → fNaN x.toNat = fNaN x:=fun x hx=>by rw [show ((x.toNat : Nat) : Int) = x by omega]
 have nanv : ∀ z : Int,fNaN z = true → plainI z = z → z = 9221120237041090560:=fun z h p=>by simp only [plainI,h,if_true] at p;exact p.symm
 have fin : ∀ z : Int,0 ≤ z → z < 18446744073709551616 → fNaN z = false → z ≤ 9218868437227405312 ∨ (9223372036854775808 ≤ z ∧ z ≤ 18442240474082181120):=fun z h0 h1 h=>by
  have:=fNaN_iff z
  rw [h] at this
  have:=this.symm
  simp only [decide_eq_false_iff_not] at this
  omega
 unfold fkey
 rw [cx x ux.1,cx y uy.1]
 cases hx : fNaN x <;> cases hy : fNaN y
 ·simp only [Bool.false_eq_true,if_false]
  have nx : x ≠ 9223372036854775808:=fun e=>by subst e;revert px;decide +kernel
  have ny : y ≠ 9223372036854775808:=fun e=>by subst e;revert py;decide +kernel
  have hx2 : x.toNat / 9223372036854775808 = 0 ∨ x.toNat / 9223372036854775808 = 1:=by omega
  have hy2 : y.toNat / 9223372036854775808 = 0 ∨ y.toNat / 9223372036854775808 = 1:=by omega
  unfold sr negW rungW rKey
  rcases hx2 with e1 | e1 <;> rcases hy2 with e2 | e2 <;> rw [e1,e2] <;> simp <;> split <;> split <;> omega
 ·have e:=nanv y hy py
  have:=fin x ux.1 ux.2 hx
  simp only [Bool.false_eq_true,if_false,if_true]
  have r : rKey y = 18444492273895866368:=by subst e;decide
  rw [r]
  have : rKey x < 18444492273895866368:=by unfold rKey;split <;> omega
  exact ⟨fun _=>this,fun _=>lx.2⟩
 ·have e:=nanv x hx px
  have:=fin y uy.1 uy.2 hy
  simp only [Bool.false_eq_true,if_false,if_true]
  have r : rKey x = 18444492273895866368:=by subst e;decide
  rw [r]
  have : ¬ 18444492273895866368 < rKey y:=by unfold rKey;split <;> omega
  exact ⟨fun h=>by omega,fun h=>absurd h this⟩
 ·rw [nanv x hx px,nanv y hy py]
  simp
theorem rCmp_eq (k n f : Int) (t : ByteArray) (k' n' f' : Int) (t' : ByteArray) (hf : U64 f) (hf' : U64 f') : rCmp k n f t k' n' f' t' = cmpV k n f t k' n' f' t':=by
 unfold rCmp cmpV
 cases h1 : soundV k n f t <;> cases h2 : soundV k' n' f' t'
 ·rfl
 ·rfl
 ·rfl
 ·simp only [Bool.not_true,Bool.or_self,Bool.false_eq_true,if_false]
  cases hk : (k != k') with
  | true=>rfl
  | false =>
   simp only [Bool.false_eq_true,if_false]
   obtain rfl : k = k':=by simpa using hk
   cases h3 : (k == 3) with
   | false=>rfl
   | true =>
    simp only [if_true]
    obtain rfl : k = 3:=by simpa using h3
    have p : plainI f = f:=by simp [soundV] at h1;exact h1.2
    have p' : plainI f' = f':=by simp [soundV] at h2;exact h2.2
    rw [cmpF_key]
    exact (ci_congr (fkey_lt hf hf' p p') (fkey_lt hf' hf p' p)).symm
theorem rCompare_v (k n f : Int) (t : ByteArray) (k' n' f' : Int) (t' : ByteArray) (w : World) (hf : U64 f) (hf' : U64 f') : Calls Tryz.prog 72 #[.agg #[.int .i64 k,.int .i64 n,.int .u64 f,.string t],.agg #[.int .i64 k',.int .i64 n',.int .u64 f',.string t']] w fun e w'=>e = .returned (.int .i64 (cmpV k n f t k' n' f' t')) ∧ Below w.heap.size w w':=by
 rw [← rCmp_eq k n f t k' n' f' t' hf hf'];exact rCompare_c k n f t k' n' f' t' w hf hf'
end Go.Proofs.YtakcjiinchghaaaGreatDoor
end
