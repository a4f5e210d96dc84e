/- a part of the claim: what the card leans on, out of the texts VZ3e, VZ4e, EV3 (put together by wip/tools/shake.py). -/
import Derived.Test.YtakcjiinchghaaaGreatDoorQE7
import Derived.Test.YtakcjiinchghaaaGreatDoorQE8
import Derived.Test.YtakcjiinchghaaaGreatDoorQE9
import Derived.Test.YtakcjiinchghaaaGreatDoorQE10
import Derived.Test.YtakcjiinchghaaaGreatDoorQE12
section
namespace Go.Proofs.YtakcjiinchghaaaGreatDoor
set_option linter.unusedVariables false
set_option linter.unusedSimpArgs false
open Go.RowKit PRZ
theorem plain_f (b : Int) (h : U64 b) : freshetref01_Plain.f b = some (plainI b):=by
 have hn:=fNaN_and b h
 have hm : fNaN 9223372036854775808 = false:=by kernel_rfl
 unfold freshetref01_Plain.f freshetref01_isNaN.f
 simp only [Option.bind_some,gt_iff_lt,hn]
 by_cases e : b = 9223372036854775808
 ·subst e;rw [if_pos rfl];simp [plainI,hm]
 ·rw [if_neg e]
  cases hN : fNaN b
  ·have e2 : (b == 9223372036854775808) = false:=by simpa using e
   simp [plainI,hN,e2]
  ·simp [plainI,hN]
theorem ofFloat_f (b : Int) (h : U64 b) : freshetref01_OfFloat.f b = some (3,0,plainI b,⟨#[]⟩):=by
 unfold freshetref01_OfFloat.f;rw [plain_f b h];rfl
theorem ofBool_f (b : Bool) : freshetref01_OfBool.f b = some (1,b2i b,0,⟨#[]⟩):=by cases b <;> rfl
theorem xor63 (f : Int) (h : U64 f) : bits .xor .u64 f 9223372036854775808 = (Op.negFloat .f64 f.toNat : Int) ∧ U64 (Op.negFloat .f64 f.toNat : Int):=by
 obtain ⟨h0,h1⟩:=h
 have e0 : Op.negFloat .f64 f.toNat = f.toNat ^^^ 2 ^ 63:=rfl
 have lt : f.toNat ^^^ 2 ^ 63 < 2 ^ 64:=Nat.xor_lt_two_pow (by omega) (by decide)
 refine ⟨?_,by omega,by rw [e0];omega⟩
 rw [e0]
 show IntKind.u64.wrap (((BitVec.ofInt 64 f) ^^^ (BitVec.ofInt 64 9223372036854775808)).toNat : Int) = _
 rw [BitVec.toNat_xor,BitVec.toNat_ofInt,BitVec.toNat_ofInt]
 have e1 : ((9223372036854775808 : Int) % ((2 ^ 64 : Nat) : Int)).toNat = 2 ^ 63:=by decide
 have e2 : (f % ((2 ^ 64 : Nat) : Int)).toNat = f.toNat:=by
  have : ((2 ^ 64 : Nat) : Int) = 18446744073709551616:=by decide
  omega
 rw [e1,e2,IntKind.wrap_u64]
 omega
theorem rOne_eq (m : Nat) (code kind k n f : Int) (t : ByteArray) (hn : I64 n) (hf : U64 f) : freshetref01_One.f (m + 1) code kind k n f t = some (tupD (oneS code kind k n f t)):=by
 have hs : xrSound.f k n f t = some (soundV k n f t):=if_pos hf
 have hj : ∀ b : Bool,b = true → freshetref01_One.j0 (m + 1) code kind b k n f t = some (tupD (.error 1)):=fun b hb=>by subst hb;rfl
 unfold freshetref01_One.f
 rw [hs]
 simp only [Option.bind_some]
 cases h : soundV k n f t
 ·simp only [Bool.false_eq_true,if_false]
  rw [hj true rfl];simp [oneS,h]
 ·simp only [if_true]
  rcases (by omega : code < 3 ∨ code = 3 ∨ code = 4 ∨ code = 5 ∨ code = 6 ∨ code > 6) with c | rfl | rfl | rfl | rfl | c
  ·rw [if_pos c,hj true rfl]
   have e3 : (code == 3) = false:=by simp;omega
   have e4 : (code == 4) = false:=by simp;omega
   have e5 : (code == 5) = false:=by simp;omega
   have e6 : (code == 6) = false:=by simp;omega
   simp [oneS,h,e3,e4,e5,e6]
  ·-- negation
   rw [if_neg (by omega),if_neg (by omega),if_neg (by omega)]
   simp only [freshetref01_One.j0]
   rw [if_neg (by simp),if_neg (by omega)]
   by_cases k0 : k = 0
   ·subst k0;simp [oneS,h,tupD,resV]
   ·rw [if_neg k0,if_neg (by omega),if_neg (by omega)]
    have e0 : (k == 0) = false:=by simpa using k0
    by_cases k3 : k = 3
    ·subst k3
     obtain ⟨x1,x2⟩:=xor63 f hf
     rw [if_pos rfl,x1,ofFloat_f _ x2]
     simp [oneS,h,negS,tupD,resV]
    ·rw [if_neg k3]
     by_cases k2 : k = 2
     ·subst k2
      rw [if_pos rfl]
      by_cases hm : n = -9223372036854775808
      ·subst hm;simp [oneS,h,negS,tupD,resV]
      ·have e : (n == -9223372036854775808) = false:=by simpa using hm
       have hw : wrap64 (-n) = -n:=by obtain ⟨n1,n2⟩:=hn;unfold wrap64;omega
       rw [if_neg hm,hw];simp [oneS,h,negS,tupD,resV,e,freshetref01_OfInt.f]
     ·rw [if_neg k2]
      have e2 : (k == 2) = false:=by simpa using k2
      have e3 : (k == 3) = false:=by simpa using k3
      simp [oneS,h,e0,negS,e2,e3,tupD,resV]
  ·-- not
   rw [if_neg (by omega),if_neg (by omega),if_neg (by omega)]
   simp only [freshetref01_One.j0]
   rw [if_neg (by simp),if_neg (by omega)]
   by_cases k0 : k = 0
   ·subst k0;simp [oneS,h,tupD,resV]
   ·rw [if_neg k0,if_neg (by omega),if_pos trivial]
    have e0 : (k == 0) = false:=by simpa using k0
    by_cases k1 : k = 1
    ·subst k1;rw [if_pos rfl,ofBool_f];simp [oneS,h,tupD,resV]
    ·rw [if_neg k1]
     have e1 : (k == 1) = false:=by simpa using k1
     simp [oneS,h,e0,e1,tupD,resV]
  ·-- is it NULL
   rw [if_neg (by omega),if_neg (by omega),if_neg (by omega)]
   simp only [freshetref01_One.j0]
   rw [if_neg (by simp),if_pos trivial,ofBool_f]
   simp [oneS,h,tupD,resV]
  ·-- a cast
   rw [if_neg (by omega),if_neg (by omega),if_pos rfl]
   by_cases b1 : kind < 1
   ·rw [if_pos b1,hj true rfl]
    have e : decide (1 ≤ kind) = false:=by simp;omega
    simp [oneS,h,e]
   ·rw [if_neg b1]
    have e : decide (1 ≤ kind) = true:=by simp;omega
    by_cases b2 : kind > 4
    ·rw [hj _ (by simpa using b2)]
     have e2 : decide (kind ≤ 4) = false:=by simp;omega
     simp [oneS,h,e,e2]
    ·have e2 : decide (kind ≤ 4) = true:=by simp;omega
     rw [show decide (kind > 4) = false by simp;omega]
     simp only [freshetref01_One.j0]
     rw [if_neg (by simp),if_neg (by omega)]
     by_cases k0 : k = 0
     ·subst k0;simp [oneS,h,e,e2,tupD,resV]
     ·have e0 : (k == 0) = false:=by simpa using k0
      rw [if_neg k0,if_pos trivial]
      by_cases kk : k = kind
      ·subst kk;rw [if_pos rfl];simp [oneS,h,e,e2,e0,castS,tupD,resV]
      ·rw [if_neg kk]
       have hc : xrCast.f k n f t kind = some (tupD (castS k n f t kind)):=if_pos ⟨hn,hf,kk⟩
       rw [hc]
       simp [oneS,h,e,e2,e0]
  ·rw [if_neg (by omega),if_pos c,hj true rfl]
   have e3 : (code == 3) = false:=by simp;omega
   have e4 : (code == 4) = false:=by simp;omega
   have e5 : (code == 5) = false:=by simp;omega
   have e6 : (code == 6) = false:=by simp;omega
   simp [oneS,h,e3,e4,e5,e6]
end Go.Proofs.YtakcjiinchghaaaGreatDoor
end
section
namespace Go.Proofs.YtakcjiinchghaaaGreatDoor
set_option linter.unusedVariables false
set_option linter.unusedSimpArgs false
open Go.RowKit PRZ
def hasB (code k : Int) : Bool:=(decide (16 ≤ code) && decide (code ≤ 21)) || (if code == 15 then k == 4 else (k == 2 || (k == 3 && code != 14)))
theorem has_eq (m : Nat) (code k : Int) : freshetref01_has.f (m + 1) code k = some (hasB code k):=by
 have hj : ∀ b : Bool,freshetref01_has.j0 (m + 1) code k b = some (b || (if code == 15 then k == 4 else (k == 2 || (k == 3 && code != 14)))):=fun b=>by
  simp only [freshetref01_has.j0]
  cases b
  ·rw [if_neg (by simp)]
   by_cases c : code = 15
   ·subst c;simp
   ·rw [if_neg c]
    have e : (code == 15) = false:=by simpa using c
    rw [e]
    by_cases k2 : k = 2
    ·subst k2;simp
    ·rw [if_neg k2]
     have e2 : (k == 2) = false:=by simpa using k2
     rw [e2]
     by_cases k3 : k = 3
     ·subst k3;simp
     ·rw [if_neg k3]
      have e3 : (k == 3) = false:=by simpa using k3
      rw [e3];simp
  ·rw [if_pos rfl];simp
 unfold freshetref01_has.f hasB
 by_cases c : code ≥ 16
 ·rw [if_pos c,hj]
  have : decide (16 ≤ code) = true:=by simp;omega
  rw [this];simp
 ·rw [if_neg c,hj]
  have : decide (16 ≤ code) = false:=by simp;omega
  rw [this];simp
theorem fits_has (code k : Int) (h : code ≤ 21) : fitsB code k = (k == 0 || hasB code k):=by
 unfold fitsB hasB
 by_cases k0 : k = 0
 ·subst k0;simp
 ·have e : (k == 0) = false:=by simpa using k0
  rw [e]
  by_cases c16 : 16 ≤ code
  ·have e1 : decide (16 ≤ code) = true:=by simpa using c16
   have e2 : decide (code ≤ 21) = true:=by simpa using h
   rw [e1,e2];simp
  ·have e1 : decide (16 ≤ code) = false:=by simpa using c16
   rw [e1]
   by_cases c15 : code = 15
   ·subst c15;simp
   ·have e15 : (code == 15) = false:=by simpa using c15
    rw [e15]
    by_cases c14 : code = 14
    ·subst c14;simp
    ·have e14 : (code == 14) = false:=by simpa using c14
     have e14' : (code != 14) = true:=by simpa using c14
     rw [e14,e14'];simp
theorem eqV_print (k n f : Int) (t : ByteArray) (b : Int) : (k == 1 && (n == b && (f == 0 && (t.toList == (⟨#[]⟩ : ByteArray).toList)))) = eqV k n f t 1 b 0 ⟨#[]⟩:=by
 unfold eqV
 have : (t.toList == (⟨#[]⟩ : ByteArray).toList) = decide (t = ⟨#[]⟩):=by
  rw [Bool.eq_iff_iff];simp only [beq_iff_eq,decide_eq_true_eq,toList_inj]
 rw [this]
 cases (k == 1) <;> cases (n == b) <;> cases (f == 0) <;> simp
theorem logic_eq (m : Nat) (code k n f : Int) (t : ByteArray) (k' n' f' : Int) (t' : ByteArray) : freshetref01_logic.f (m + 2) code k n f t k' n' f' t' = some (tupD (logicS code k n f t k' n' f' t')):=by
 have h1 : ∀ b : Bool,freshetref01_logic.j0 (m + 2) code b k n f t k' n' f' t' = some (tupD (if b then .error 1 else if eqV k n f t 1 (b2i (code == 23)) 0 ⟨#[]⟩ || eqV k' n' f' t' 1 (b2i (code == 23)) 0 ⟨#[]⟩ then .ok ⟨1,b2i (code == 23),0,⟨#[]⟩⟩
   else if k == 0 || k' == 0 then .ok ⟨0,0,0,⟨#[]⟩⟩ else .ok ⟨1,b2i (code == 22),0,⟨#[]⟩⟩)):=fun b=>by
  have h2 : ∀ c : Bool,freshetref01_logic.j1 (m + 1) code c k n f t k' n' f' t' 1 (b2i (code == 23)) 0 ⟨#[]⟩ = some (tupD (if c then .ok ⟨1,b2i (code == 23),0,⟨#[]⟩⟩
    else if k == 0 || k' == 0 then .ok ⟨0,0,0,⟨#[]⟩⟩ else .ok ⟨1,b2i (code == 22),0,⟨#[]⟩⟩)):=fun c=>by
   simp only [freshetref01_logic.j1]
   cases c
   ·rw [if_neg (by simp)]
    by_cases k0 : k = 0
    ·subst k0;simp [tupD,resV]
    ·rw [if_neg k0]
     have e : (k == 0) = false:=by simpa using k0
     by_cases k0' : k' = 0
     ·subst k0';simp [tupD,resV]
     ·rw [if_neg k0',ofBool_f]
      have e' : (k' == 0) = false:=by simpa using k0'
      simp [e,e',tupD,resV]
   ·rw [if_pos rfl];simp [tupD,resV]
  simp only [freshetref01_logic.j0]
  cases b
  ·rw [if_neg (by simp),ofBool_f]
   simp only [Option.bind_some,eqV_print]
   cases eqV k n f t 1 (b2i (code == 23)) 0 ⟨#[]⟩
   ·rw [if_neg (by simp),h2];simp
   ·rw [if_pos rfl,h2];simp
  ·rw [if_pos rfl];simp [tupD,resV]
 unfold freshetref01_logic.f logicS
 by_cases a : k > 1
 ·rw [if_pos a,h1]
  have : decide (max k k' ≤ 1) = false:=by simp;omega
  rw [this];simp
 ·rw [if_neg a,h1]
  have : decide (k' > 1) = !decide (max k k' ≤ 1):=by
   by_cases b : k' > 1
   ·have : decide (max k k' ≤ 1) = false:=by simp;omega
    rw [this];simp;omega
   ·have : decide (max k k' ≤ 1) = true:=by simp;omega
    rw [this];simp;omega
  rw [this]
def okI (n : Int) : Option (Int × Int × Int × ByteArray × Int):=some (2,n,0,⟨#[]⟩,0)
theorem ofInt_b (n : Int) : ((freshetref01_OfInt.f n).bind fun b=>some (b.1,b.2.1,b.2.2.1,b.2.2.2,(0 : Int))) = okI n:=rfl
def erI (c : Int) : Option (Int × Int × Int × ByteArray × Int):=some (0,0,0,⟨#[]⟩,c)
theorem tup_ok (n : Int) : some (tupD (addI (.ok n))) = okI n:=rfl
theorem tup_er (c : Int) : some (tupD (addI (.error c))) = erI c:=rfl
theorem fit_in {x : Int} (h : -9223372036854775808 ≤ x ∧ x ≤ 9223372036854775807) : fitI x = .ok x:=if_pos h
theorem fit_out {x : Int} (h : ¬ (-9223372036854775808 ≤ x ∧ x ≤ 9223372036854775807)) : fitI x = .error 11:=if_neg h
theorem ints_add (a b : Int) (ha : I64 a) (hb : I64 b) : freshetref01_ints.f 10 a b = some (tupD (addI (fitI (a + b)))):=by
 obtain ⟨a1,a2⟩:=ha;obtain ⟨b1,b2⟩:=hb
 unfold freshetref01_ints.f
 simp only [ofInt_b,if_true]
 by_cases h : -9223372036854775808 ≤ a + b ∧ a + b ≤ 9223372036854775807
 ·have hw : wrap64 (a + b) = a + b:=by unfold wrap64;omega
  rw [fit_in h,tup_ok,hw]
  by_cases c : b ≥ 0
  ·rw [if_pos c,if_neg (by omega),if_neg (by omega)]
  ·rw [if_neg c,if_pos (by omega),if_neg (by omega)]
 ·rw [fit_out h,tup_er]
  by_cases c : b ≥ 0
  ·have hw : wrap64 (a + b) = a + b - 18446744073709551616:=by unfold wrap64;omega
   rw [if_pos c,hw,if_pos (by omega)];rfl
  ·have hw : wrap64 (a + b) = a + b + 18446744073709551616:=by unfold wrap64;omega
   rw [if_neg c,if_pos (by omega),hw,if_pos (by omega)];rfl
theorem ints_sub (a b : Int) (ha : I64 a) (hb : I64 b) : freshetref01_ints.f 11 a b = some (tupD (addI (fitI (a - b)))):=by
 obtain ⟨a1,a2⟩:=ha;obtain ⟨b1,b2⟩:=hb
 unfold freshetref01_ints.f
 rw [if_neg (by decide)]
 simp only [ofInt_b,if_true]
 by_cases h : -9223372036854775808 ≤ a - b ∧ a - b ≤ 9223372036854775807
 ·have hw : wrap64 (a - b) = a - b:=by unfold wrap64;omega
  rw [fit_in h,tup_ok,hw]
  by_cases c : b ≥ 0
  ·rw [if_pos c,if_neg (by omega),if_neg (by omega)]
  ·rw [if_neg c,if_pos (by omega),if_neg (by omega)]
 ·rw [fit_out h,tup_er]
  by_cases c : b ≥ 0
  ·have hw : wrap64 (a - b) = a - b + 18446744073709551616:=by unfold wrap64;omega
   rw [if_pos c,hw,if_pos (by omega)];rfl
  ·have hw : wrap64 (a - b) = a - b - 18446744073709551616:=by unfold wrap64;omega
   rw [if_neg c,if_pos (by omega),hw,if_pos (by omega)];rfl
theorem mul_div_back {a b : Int} (ha0 : a ≠ 0) (hb : I64 b) : wrap64 (Int.tdiv (a * b) a) = b:=by
 rw [Int.mul_tdiv_cancel_left _ ha0];obtain ⟨b1,b2⟩:=hb;unfold wrap64;omega
theorem mul_over {a b : Int} (ha : I64 a) (hb : I64 b) (ha0 : a ≠ 0) (ha1 : a ≠ -1) (h : ¬ (-9223372036854775808 ≤ a * b ∧ a * b ≤ 9223372036854775807)) : ¬ wrap64 (Int.tdiv (wrap64 (a * b)) a) = b:=by
 intro e
 have hw : ∃ q : Int,q ≠ 0 ∧ wrap64 (a * b) = a * b + 18446744073709551616 * q:=by
  refine ⟨-((a * b + 9223372036854775808) / 18446744073709551616), ?_,by unfold wrap64;omega⟩
  intro h0;apply h;omega
 obtain ⟨q,hq,hw⟩:=hw
 have hcr : -9223372036854775808 ≤ wrap64 (a * b) ∧ wrap64 (a * b) ≤ 9223372036854775807:=by unfold wrap64;omega
 generalize wrap64 (a * b) = c at *
 have hd : I64 (Int.tdiv c a):=tdiv_range hcr ha1 ha0
 have e2 : Int.tdiv c a = b:=by
  obtain ⟨d1,d2⟩:=hd
  have : wrap64 (Int.tdiv c a) = Int.tdiv c a:=by unfold wrap64;omega
  rw [this] at e;exact e
 have hm:=Int.tmod_add_mul_tdiv c a
 rw [e2] at hm
 have hr : (Int.tmod c a).natAbs < a.natAbs:=by
  rw [Int.natAbs_tmod];exact Nat.mod_lt _ (Int.natAbs_pos.2 ha0)
 obtain ⟨a1,a2⟩:=ha
 have : Int.tmod c a = 18446744073709551616 * q:=by omega
 omega
theorem ints_mul (a b : Int) (ha : I64 a) (hb : I64 b) : freshetref01_ints.f 12 a b = some (tupD (addI (fitI (a * b)))):=by
 have ha':=ha;have hb':=hb
 obtain ⟨a1,a2⟩:=ha;obtain ⟨b1,b2⟩:=hb
 unfold freshetref01_ints.f
 rw [if_neg (by decide),if_neg (by decide)]
 simp only [ofInt_b,if_true]
 by_cases am : a = -1
 ·subst am
  rw [if_pos rfl]
  have e : (-1 : Int) * b = -b:=by omega
  rw [e]
  by_cases bm : b = -9223372036854775808
  ·rw [if_pos bm,fit_out (by omega),tup_er];rfl
  ·rw [if_neg bm,fit_in (by omega),tup_ok]
   have hw : wrap64 (-b) = -b:=by unfold wrap64;omega
   rw [hw]
   by_cases b1 : b = -1
   ·rw [if_pos b1,if_neg (by decide),if_neg (by decide)]
   ·rw [if_neg b1,if_neg (by decide)]
 ·rw [if_neg am]
  by_cases az : a = 0
  ·subst az
   have hw : wrap64 ((0 : Int) * b) = 0:=by rw [Int.zero_mul];unfold wrap64;omega
   rw [hw,Int.zero_mul,fit_in (by decide),tup_ok]
   by_cases b1 : b = -1
   ·rw [if_pos b1,if_neg (by decide),if_pos rfl]
   ·rw [if_neg b1,if_pos rfl]
  ·by_cases h : -9223372036854775808 ≤ a * b ∧ a * b ≤ 9223372036854775807
   ·have hw : wrap64 (a * b) = a * b:=by unfold wrap64;omega
    have hd:=mul_div_back az hb'
    rw [hw,fit_in h,tup_ok]
    by_cases b1 : b = -1
    ·have : a ≠ -9223372036854775808:=by rintro rfl;subst b1;revert h;decide
     rw [if_pos b1,if_neg this,if_neg az,if_pos hd]
    ·rw [if_neg b1,if_neg az,if_pos hd]
   ·have hd:=mul_over ha' hb' az am h
    rw [fit_out h,tup_er]
    by_cases b1 : b = -1
    ·by_cases a3 : a = -9223372036854775808
     ·rw [if_pos b1,if_pos a3];rfl
     ·exfalso;apply h;subst b1;omega
    ·rw [if_neg b1,if_neg az,if_neg hd];rfl
theorem ints_div (a b : Int) (ha : I64 a) (hb : I64 b) (code : Int) (hc : code = 13 ∨ code = 14) : freshetref01_ints.f code a b = some (tupD (addI (intsS code a b))):=by
 have ha':=ha
 obtain ⟨a1,a2⟩:=ha;obtain ⟨b1,b2⟩:=hb
 unfold freshetref01_ints.f
 rw [if_neg (by omega),if_neg (by omega),if_neg (by omega)]
 simp only [ofInt_b]
 have e10 : (code == 10) = false:=by simp;omega
 have e11 : (code == 11) = false:=by simp;omega
 have e12 : (code == 12) = false:=by simp;omega
 unfold intsS
 rw [e10,e11,e12]
 simp only [Bool.false_eq_true,if_false]
 by_cases b0 : b = 0
 ·subst b0;rw [if_pos rfl];rfl
 ·rw [if_neg b0]
  have e0 : (b == 0) = false:=by simpa using b0
  rw [e0]
  simp only [Bool.false_eq_true,if_false]
  by_cases bm : b = -1
  ·subst bm
   rw [if_pos rfl]
   rcases hc with rfl | rfl
   ·rw [if_neg (by decide)]
    have : Int.tdiv a (-1) = -a:=by rw [Int.tdiv_neg,Int.tdiv_one]
    rw [this]
    by_cases am : a = -9223372036854775808
    ·rw [if_pos am]
     simp only [show ((13 : Int) == 14) = false from rfl,Bool.false_eq_true,if_false]
     rw [fit_out (by omega),tup_er];rfl
    ·rw [if_neg am]
     simp only [show ((13 : Int) == 14) = false from rfl,Bool.false_eq_true,if_false]
     rw [fit_in (by omega),tup_ok,show wrap64 (-a) = -a by unfold wrap64;omega]
   ·rw [if_pos rfl]
    have : Int.tmod a (-1) = 0:=by rw [Int.tmod_neg,Int.tmod_one]
    simp only [show ((14 : Int) == 14) = true from rfl,if_true]
    rw [this,tup_ok]
  ·rw [if_neg bm]
   rcases hc with rfl | rfl
   ·rw [if_pos rfl]
    simp only [show ((13 : Int) == 14) = false from rfl,Bool.false_eq_true,if_false]
    have hd:=tdiv_range ha' bm b0
    obtain ⟨d1,d2⟩:=hd
    rw [fit_in ⟨d1,d2⟩,tup_ok,show wrap64 (Int.tdiv a b) = Int.tdiv a b by unfold wrap64;omega]
   ·rw [if_neg (by decide)]
    simp only [show ((14 : Int) == 14) = true from rfl,if_true]
    rw [tup_ok]
theorem ints_eq (code a b : Int) (ha : I64 a) (hb : I64 b) (h1 : 10 ≤ code) (h2 : code ≤ 14) : freshetref01_ints.f code a b = some (tupD (addI (intsS code a b))):=by
 rcases (by omega : code = 10 ∨ code = 11 ∨ code = 12 ∨ code = 13 ∨ code = 14) with rfl | rfl | rfl | rfl | rfl
 ·rw [ints_add a b ha hb];rfl
 ·rw [ints_sub a b ha hb];rfl
 ·rw [ints_mul a b ha hb];rfl
 ·exact ints_div a b ha hb 13 (.inl rfl)
 ·exact ints_div a b ha hb 14 (.inr rfl)
theorem sound_sz {k n f : Int} {t : ByteArray} (h : soundV k n f t = true) : t.size ≤ 4096:=by
 unfold soundV eqV at h
 have z : (⟨#[]⟩ : ByteArray).size = 0:=rfl
 by_cases a0 : k = 0
 ·subst a0;simp at h;have e : t = ⟨#[]⟩:=(by first | exact h | exact h.2 | exact h.2.2 | exact h.1.2 | exact h.1.2.2 | exact h.1)
  rw [e,z];omega
 by_cases a1 : k = 1
 ·subst a1;simp at h;have e : t = ⟨#[]⟩:=(by first | exact h | exact h.2 | exact h.2.2 | exact h.1.2 | exact h.1.2.2 | exact h.1)
  rw [e,z];omega
 by_cases a2 : k = 2
 ·subst a2;simp at h;have e : t = ⟨#[]⟩:=(by first | exact h | exact h.2 | exact h.2.2 | exact h.1.2 | exact h.1.2.2 | exact h.1)
  rw [e,z];omega
 by_cases a3 : k = 3
 ·subst a3;simp at h;have e : t = ⟨#[]⟩:=(by first | exact h | exact h.2 | exact h.2.2 | exact h.1.2 | exact h.1.2.2 | exact h.1)
  rw [e,z];omega
 by_cases a4 : k = 4;· subst a4;simp at h;exact h.2
 simp [a0,a1,a2,a3,a4] at h
theorem ofText_f (t : ByteArray) : freshetref01_OfText.f t = some (tupD (textS t)):=by
 unfold freshetref01_OfText.f textS
 by_cases h : t.size ≤ 4096
 ·rw [if_neg (by omega),if_pos h];rfl
 ·rw [if_pos (by omega),if_neg h];rfl
theorem b2i_cmp (code c : Int) (b : Bool) (h : comparedB code c = b) : ((freshetref01_OfBool.f b).bind fun x=>some (x.1,x.2.1,x.2.2.1,x.2.2.2,(0 : Int))) = some (tupD (.ok ⟨1,b2i (comparedB code c),0,⟨#[]⟩⟩)):=by
 rw [ofBool_f,h];rfl
/-- what follows where neither is NULL -/
def twoR (code k n f : Int) (t : ByteArray) (k' n' f' : Int) (t' : ByteArray) : Except Int V :=
 if k == 0 || k' == 0 then .ok ⟨0,0,0,⟨#[]⟩⟩
 else if decide (16 ≤ code) then .ok ⟨1,b2i (comparedB code (cmpV k n f t k' n' f' t')),0,⟨#[]⟩⟩
 else if code == 15 then textS (t ++ t')
 else if k == 3 then .ok ⟨3,0,floatS code f.toNat f'.toNat,⟨#[]⟩⟩
 else addI (intsS code n n')
theorem j4_eq (m : Nat) (code k n f : Int) (t : ByteArray) (k' n' f' : Int) (t' : ByteArray) (hn : I64 n) (hn' : I64 n') (hf : U64 f) (hf' : U64 f') (h1 : 10 ≤ code) (h2 : code ≤ 21) (hs : t.size + t'.size ≤ 9223372036854775807) (b : Bool) (hb : b = (k == 0 || k' == 0)) :
  freshetref01_Two.j4 (m + 1) code b k n f t k' n' f' t' = some (tupD (twoR code k n f t k' n' f' t')):=by
 have hc : xrCompare.f k n f t k' n' f' t' = some (cmpV k n f t k' n' f' t'):=if_pos ⟨hf,hf'⟩
 simp only [freshetref01_Two.j4]
 unfold twoR
 rw [← hb]
 cases b
 ·rw [if_neg (by simp),hc]
  simp only [Option.bind_some,Bool.false_eq_true,if_false]
  generalize cmpV k n f t k' n' f' t' = c
  rcases (by omega : code ≤ 14 ∨ code = 15 ∨ code = 16 ∨ code = 17 ∨ code = 18 ∨ code = 19 ∨ code = 20 ∨ code = 21) with x | rfl | rfl | rfl | rfl | rfl | rfl | rfl
  ·rw [if_neg (by omega),if_neg (by omega),if_neg (by omega),if_neg (by omega),if_neg (by omega),if_neg (by omega),if_neg (by omega)]
   have e1 : decide (16 ≤ code) = false:=by simp;omega
   have e2 : (code == 15) = false:=by simp;omega
   rw [e1,e2]
   simp only [Bool.false_eq_true,if_false]
   by_cases k3 : k = 3
   ·subst k3;rfl
   ·rw [if_neg k3,ints_eq code n n' hn hn' h1 x]
    have e3 : (k == 3) = false:=by simpa using k3
    rw [e3];rfl
  ·simp only [show ¬ ((15 : Int) = 16) by decide,show ¬ ((15 : Int) = 17) by decide,show ¬ ((15 : Int) = 18) by decide,show ¬ ((15 : Int) = 19) by decide,show ¬ ((15 : Int) = 20) by decide,show ¬ ((15 : Int) = 21) by decide,if_false,if_true]
   rw [if_pos hs,ofText_f];rfl
  ·exact b2i_cmp 16 c _ rfl
  ·exact b2i_cmp 17 c _ rfl
  ·exact b2i_cmp 18 c _ rfl
  ·exact b2i_cmp 19 c _ rfl
  ·exact b2i_cmp 20 c _ rfl
  ·exact b2i_cmp 21 c _ rfl
 ·rw [if_pos rfl];rfl
theorem j3_eq (m : Nat) (code k n f : Int) (t : ByteArray) (k' n' f' : Int) (t' : ByteArray) (hn : I64 n) (hn' : I64 n') (hf : U64 f) (hf' : U64 f') (h1 : 10 ≤ code) (h2 : code ≤ 21) (hs : t.size + t'.size ≤ 9223372036854775807) (b : Bool) :
    freshetref01_Two.j3 (m + 2) code b k n f t k' n' f' t' = some (tupD (if b then .error 1 else twoR code k n f t k' n' f' t')) := by
  have h4 := j4_eq m code k n f t k' n' f' t' hn hn' hf hf' h1 h2 hs
  simp only [freshetref01_Two.j3]
  cases b
  · rw [if_neg (by simp)]
    by_cases k0 : k = 0
    · rw [if_pos k0, h4 true (by subst k0; rfl)]; rfl
    · rw [if_neg k0, h4 _ (by have e : (k == 0) = false := by simpa using k0
                              rw [e]; rfl)]; rfl
  · rw [if_pos rfl]; rfl
theorem j2_eq (m : Nat) (code k n f : Int) (t : ByteArray) (k' n' f' : Int) (t' : ByteArray) (hn : I64 n) (hn' : I64 n') (hf : U64 f) (hf' : U64 f') (h1 : 10 ≤ code) (h2 : code ≤ 24) (h22 : code ≠ 22) (h23 : code ≠ 23) (hs : t.size + t'.size ≤ 9223372036854775807) (b : Bool) :
  freshetref01_Two.j2 (m + 3) code b k n f t k' n' f' t' = some (tupD (if b then .error 1 else if code == 24 then (if k == 0 then .ok ⟨k',n',f',t'⟩ else .ok ⟨k,n,f,t⟩)
   else if !(fitsB code k && fitsB code k') then .error 1 else twoR code k n f t k' n' f' t')):=by
 simp only [freshetref01_Two.j2]
 cases b
 ·rw [if_neg (by simp)]
  by_cases c24 : code = 24
  ·subst c24
   simp only [if_true,show ((24 : Int) == 24) = true from rfl,Bool.false_eq_true,if_false]
   by_cases k0 : k = 0
   ·subst k0;rfl
   ·have e : (k == 0) = false:=by simpa using k0
    rw [if_neg k0,e];rfl
  ·have e24 : (code == 24) = false:=by simpa using c24
   have h21 : code ≤ 21:=by omega
   have h3:=j3_eq m code k n f t k' n' f' t' hn hn' hf hf' h1 h21 hs
   rw [if_neg c24,e24]
   simp only [Bool.false_eq_true,if_false]
   rw [fits_has code k h21,fits_has code k' h21]
   simp only [show ∀ x,freshetref01_has.f (m + 2) code x = some (hasB code x) from fun x=>has_eq (m + 1) code x,Option.bind_some]
   by_cases k0 : k = 0
   ·subst k0
    simp only [if_true,show ((0 : Int) == 0) = true from rfl,Bool.true_or,Bool.true_and]
    by_cases k0' : k' = 0
    ·subst k0';simp only [if_true,show ((0 : Int) == 0) = true from rfl,Bool.true_or,Bool.not_true];rw [h3]
    ·have e' : (k' == 0) = false:=by simpa using k0'
     rw [if_neg k0',h3,e',Bool.false_or]
   ·have e : (k == 0) = false:=by simpa using k0
    rw [if_neg k0,e,Bool.false_or]
    cases hh : hasB code k
    ·rw [if_neg (by simp),h3];rfl
    ·rw [if_pos rfl,Bool.true_and]
     by_cases k0' : k' = 0
     ·subst k0';simp only [if_true,show ((0 : Int) == 0) = true from rfl,Bool.true_or,Bool.not_true];rw [h3]
     ·have e' : (k' == 0) = false:=by simpa using k0'
      rw [if_neg k0',h3,e',Bool.false_or]
 ·rw [if_pos rfl];rfl
theorem rTwo_eq (m : Nat) (code k n f : Int) (t : ByteArray) (k' n' f' : Int) (t' : ByteArray) (hn : I64 n) (hn' : I64 n') (hf : U64 f) (hf' : U64 f') :
    freshetref01_Two.f (m + 5) code k n f t k' n' f' t' = some (tupD (twoS code k n f t k' n' f' t')) := by
  have s1 : xrSound.f k n f t = some (soundV k n f t) := if_pos hf
  have s2 : xrSound.f k' n' f' t' = some (soundV k' n' f' t') := if_pos hf'
  have j0t : ∀ b : Bool, b = true → freshetref01_Two.j0 (m + 5) code b k n f t k' n' f' t' = some (tupD (.error 1)) := fun b hb => by subst hb; rfl
  unfold freshetref01_Two.f
  rw [s1, s2]
  simp only [Option.bind_some]
  unfold twoS
  cases h1 : soundV k n f t
  · rw [if_neg (by simp), j0t true rfl]; rfl
  · rw [if_pos rfl]
    cases h2 : soundV k' n' f' t'
    · rw [if_neg (by simp), j0t true rfl]; rfl
    · rw [if_pos rfl]
      by_cases c10 : code < 10
      · rw [if_pos c10, j0t true rfl]
        have e : decide (10 ≤ code) = false := by simp; omega
        rw [e]; rfl
      · rw [if_neg c10]
        have e10 : decide (10 ≤ code) = true := by simp; omega
        by_cases c24 : code > 24
        · rw [j0t _ (by simpa using c24)]
          have e : decide (code ≤ 24) = false := by simp; omega
          rw [e10, e]; rfl
        · have e24 : decide (code ≤ 24) = true := by simp; omega
          rw [e10, e24]
          simp only [Bool.and_self, Bool.not_true, Bool.false_eq_true, if_false]
          rw [show decide (code > 24) = false by simp; omega]
          have j1t : ∀ b : Bool, b = true → freshetref01_Two.j1 (m + 4) code b k n f t k' n' f' t' = some (tupD (logicS code k n f t k' n' f' t')) := fun b hb => by
            subst hb
            simp only [freshetref01_Two.j1, if_true]
            rw [show m + 3 = (m + 1) + 2 by omega, logic_eq]; rfl
          simp only [freshetref01_Two.j0]
          rw [if_neg (by simp)]
          by_cases c22 : code = 22
          · subst c22; rw [if_pos rfl, j1t true rfl]; rfl
          · rw [if_neg c22]
            by_cases c23 : code = 23
            · subst c23; rw [j1t (23 == 23) rfl]; rfl
            · have e22 : (code == 22) = false := by simpa using c22
              have e23 : (code == 23) = false := by simpa using c23
              rw [e22, e23]
              have hs : t.size + t'.size ≤ 9223372036854775807 := by have := sound_sz h1; have := sound_sz h2; omega
              have h := j2_eq m code k n f t k' n' f' t' hn hn' hf hf' (by omega) (by omega) c22 c23 hs
              simp only [freshetref01_Two.j1]
              rw [if_neg (by simp)]
              simp only [Bool.or_self, Bool.false_eq_true, if_false]
              have fin : ∀ b : Bool, b = !(k == 0 || k' == 0 || k == k') → freshetref01_Two.j2 (m + 3) code b k n f t k' n' f' t' = some (tupD (if !(k == 0 || k' == 0 || k == k') then .error 1 else if code == 24 then (if k == 0 then .ok ⟨k', n', f', t'⟩ else .ok ⟨k, n, f, t⟩)
                  else if !(fitsB code k && fitsB code k') then .error 1 else if k == 0 || k' == 0 then .ok ⟨0, 0, 0, ⟨#[]⟩⟩
                  else if decide (16 ≤ code) then .ok ⟨1, b2i (comparedB code (cmpV k n f t k' n' f' t')), 0, ⟨#[]⟩⟩
                  else if code == 15 then textS (t ++ t') else if k == 3 then .ok ⟨3, 0, floatS code f.toNat f'.toNat, ⟨#[]⟩⟩ else addI (intsS code n n'))) := fun b hb => by
                rw [h, hb]; rfl
              by_cases k0 : k = 0
              · rw [if_pos k0, fin false (by subst k0; rfl)]
              · rw [if_neg k0]
                have e : (k == 0) = false := by simpa using k0
                by_cases k0' : k' = 0
                · rw [if_pos k0', fin false (by subst k0'; simp)]
                · rw [if_neg k0', fin _ (by have e' : (k' == 0) = false := by simpa using k0'
                                            rw [e, e']; rfl)]
theorem rOne_c (code kind k n f : Int) (t : ByteArray) (w : World) (hn : I64 n) (hf : U64 f) :
  Calls Tryz.prog 40 #[.int .i64 code,.int .i64 kind,.agg #[.int .i64 k,.int .i64 n,.int .u64 f,.string t]] w (OutT (oneS code kind k n f t) w) :=
 PRZ.freshetref01_One.calls 1 code kind k n f t _ _ _ _ _ w (rOne_eq 0 code kind k n f t hn hf)
theorem rTwo_c (code k n f : Int) (t : ByteArray) (k' n' f' : Int) (t' : ByteArray) (w : World) (hn : I64 n) (hn' : I64 n') (hf : U64 f) (hf' : U64 f') :
  Calls Tryz.prog 42 #[.int .i64 code,.agg #[.int .i64 k,.int .i64 n,.int .u64 f,.string t],.agg #[.int .i64 k',.int .i64 n',.int .u64 f',.string t']] w (OutT (twoS code k n f t k' n' f' t') w) :=
 PRZ.freshetref01_Two.calls 5 code k n f t k' n' f' t' _ _ _ _ _ w (rTwo_eq 0 code k n f t k' n' f' t' hn hn' hf hf')
end Go.Proofs.YtakcjiinchghaaaGreatDoor
end
section
namespace Go.Proofs.YtakcjiinchghaaaGreatDoor
set_option linter.unusedVariables false
set_option linter.unusedSimpArgs false
open Go.RowKit Go.Proofs.YtakcjiinchghaaaGreatDoorW.PrintWords Go.Proofs.YtakcjiinchghaaaGreatDoorW.PrintLast PRW PRE PRG
theorem all_drop (l : List S29) (i : Nat) (hi : i < l.length) (p : S29 → Bool) : (l.drop i).all p = (p l[i] && (l.drop (i + 1)).all p):=by
 rw [List.drop_eq_getElem_cons hi,List.all_cons]
theorem rrsound_ev (l : List S29) (hr : ∀ x ∈ l,U64 x.f2) : Ev (fun k=>freshetref02_Sound.f k l) (soundL l):=by
 have main : ∀ n i : Nat,i + n = l.length → i ≤ 1024 → Ev (fun k=>freshetref02_Sound.l0 k l (i : Int)) (decide (l.length ≤ 1024) && (l.drop i).all fun x=>soundV x.f0 x.f1 x.f2 x.f3):=by
  intro n
  induction n with
  | zero =>
   intro i hi h1
   rw [List.drop_of_length_le (by omega),decide_eq_true (by omega)]
   refine Ev.step (f:=fun _=>some true) (fun k=>?_) (Ev.now _)
   simp only [freshetref02_Sound.l0]
   rw [if_neg (by omega)]
  | succ n ih =>
   intro i hi h1
   have hl : i < l.length:=by omega
   by_cases hb : 1024 ≤ i
   ·rw [decide_eq_false (by omega),Bool.false_and]
    refine Ev.step (f:=fun _=>some false) (fun k=>?_) (Ev.now _)
    simp only [freshetref02_Sound.l0]
    rw [if_pos (by omega),if_pos (by omega)]
   ·have hx : xrSound.f (l[i]).f0 (l[i]).f1 (l[i]).f2 (l[i]).f3 = some (soundV (l[i]).f0 (l[i]).f1 (l[i]).f2 (l[i]).f3):=by unfold xrSound.f;exact if_pos (hr _ (List.getElem_mem hl))
    have hrd : rd_T29 l (i : Int) = l[i]:=by unfold rd_T29;simp [hl]
    rw [all_drop l i hl]
    cases hs : soundV (l[i]).f0 (l[i]).f1 (l[i]).f2 (l[i]).f3
    ·rw [Bool.false_and,Bool.and_false]
     refine Ev.step (f:=fun _=>some false) (fun k=>?_) (Ev.now _)
     simp only [freshetref02_Sound.l0]
     rw [if_pos (by omega),if_neg (by omega),if_pos (by omega),hrd,hx,hs,Option.bind_some,if_neg Bool.false_ne_true]
    ·rw [Bool.true_and]
     refine Ev.step (fun k=>?_) (ih (i + 1) (by omega) (by omega))
     simp only [freshetref02_Sound.l0]
     rw [if_pos (by omega),if_neg (by omega),if_pos (by omega),hrd,hx,hs,Option.bind_some,if_pos rfl,w64n (n:=(i : Int) + 1) (by omega) (by omega)]
     rfl
 exact main l.length 0 (by omega) (by omega)
theorem rrsound_c (A : Option Addr) (c : Nat) (r : List S29) (W : World) (hC : Kd.C k29 W A r.length r) (hc : r.length ≤ c) (hr : ∀ x ∈ r,U64 x.f2) :
  Calls Tryz.prog 38 #[.slice A r.length c] W fun en w'=>en = .returned (.bool (soundL r)) ∧ Below W.heap.size W w':=by
 obtain ⟨k,hk⟩:=(rrsound_ev r hr).rounds
 exact freshetref02_Sound.calls k A c r _ W hC hc hk
theorem resound_c (A : Option Addr) (c : Nat) (e : List S41) (w : Int) (W : World) (hC : Kd.C k41 W A e.length e) (hc : e.length ≤ c) (hd : ∀ d ∈ e,U64 d.f2.f2) :
  Calls Tryz.prog 14 #[.slice A e.length c,.int .i64 w] W fun en w'=>en = .returned (.bool (soundE e w)) ∧ Below W.heap.size W w':=by
 obtain ⟨k,hk⟩:=(rsound_ev e w hd).rounds
 exact PRT.freshetref05_Sound.calls k A c e w _ W hC hc hk
set_option maxRecDepth 100000 in
theorem rleast_c (a b : Int) (W : World) : Calls Tryz.prog 41 #[.int .i64 a,.int .i64 b] W fun e w'=>e = .returned (.int .i64 (leastE a b)) ∧ Below W.heap.size W w':=by
 by_cases ha : a = 0
 ·have e1 : leastE a b = b:=by unfold leastE;rw [if_pos (.inl ha)];omega
  have ha' : (a == 0) = true:=beq_iff_eq.2 ha
  rw [e1]
  clear ha e1
  go_enter Tryz.func41,Tryz.ntmps41
  go_wp2
  exact bodyPost_ret (v:=.int .i64 b) (by simp [results,Tryz.results41,go_sem, *]) rfl ⟨rfl,(by repeat (first | (with_reducible exact Below.refl _ _) | (with_reducible refine below_al ?_ _) | (with_reducible refine below_drewN ?_ _) | (with_reducible refine Below.drew ?_) | (with_reducible refine below_via (by assumption) ?_) | (with_reducible refine below_sc ?_ ?_ _;· (first | (simp;done) | (simp;omega) | omega))))⟩
 ·have ha' : (a == 0) = false:=beq_eq_false_iff_ne.2 ha
  by_cases hb : b = 0
  ·have e1 : leastE a b = a:=by unfold leastE;rw [if_pos (.inr hb)];omega
   have hb' : (b != 0) = false:=bne_eq_false_iff_eq.2 hb
   rw [e1]
   clear ha hb e1
   go_enter Tryz.func41,Tryz.ntmps41
   go_wp2
   exact bodyPost_ret (v:=.int .i64 a) (by simp [results,Tryz.results41,go_sem, *]) rfl ⟨rfl,(by repeat (first | (with_reducible exact Below.refl _ _) | (with_reducible refine below_al ?_ _) | (with_reducible refine below_drewN ?_ _) | (with_reducible refine Below.drew ?_) | (with_reducible refine below_via (by assumption) ?_) | (with_reducible refine below_sc ?_ ?_ _;· (first | (simp;done) | (simp;omega) | omega))))⟩
  ·have hb' : (b != 0) = true:=bne_iff_ne.2 hb
   by_cases hl : b < a
   ·have e1 : leastE a b = b:=by unfold leastE;rw [if_neg (by omega)];omega
    have hl' : decide (b < a) = true:=decide_eq_true hl
    rw [e1]
    clear ha hb e1
    go_enter Tryz.func41,Tryz.ntmps41
    go_wp2
    exact bodyPost_ret (v:=.int .i64 b) (by simp [results,Tryz.results41,go_sem, *]) rfl ⟨rfl,(by repeat (first | (with_reducible exact Below.refl _ _) | (with_reducible refine below_al ?_ _) | (with_reducible refine below_drewN ?_ _) | (with_reducible refine Below.drew ?_) | (with_reducible refine below_via (by assumption) ?_) | (with_reducible refine below_sc ?_ ?_ _;· (first | (simp;done) | (simp;omega) | omega))))⟩
   ·have e1 : leastE a b = a:=by unfold leastE;rw [if_neg (by omega)];omega
    have hl' : decide (b < a) = false:=decide_eq_false hl
    rw [e1]
    clear ha hb e1
    go_enter Tryz.func41,Tryz.ntmps41
    go_wp2
    exact bodyPost_ret (v:=.int .i64 a) (by simp [results,Tryz.results41,go_sem, *]) rfl ⟨rfl,(by repeat (first | (with_reducible exact Below.refl _ _) | (with_reducible refine below_al ?_ _) | (with_reducible refine below_drewN ?_ _) | (with_reducible refine Below.drew ?_) | (with_reducible refine below_via (by assumption) ?_) | (with_reducible refine below_sc ?_ ?_ _;· (first | (simp;done) | (simp;omega) | omega))))⟩
theorem rfn (r : List S29) : RFn r where
 takes:=fun W d hd=>by
  obtain ⟨k,hk⟩:=(rtakes_ev (r.length : Int) d hd).rounds
  exact PRT.freshetref05_takes.calls k d.f0 d.f1 d.f2.f0 d.f2.f1 d.f2.f2 d.f2.f3 (r.length : Int) _ W hk
 least:=fun W a b=>rleast_c a b W
 one:=fun W d a ha he=>by
  have h:=rOne_c d.f0 d.f1 a.v.f0 a.v.f1 a.v.f2 a.v.f3 W ha.1.1 ha.2
  unfold oneC
  rw [if_neg (fun h=>h he)]
  exact h
 two:=fun W d a b ha hb he=>by
  have h:=rTwo_c d.f0 a.v.f0 a.v.f1 a.v.f2 a.v.f3 b.v.f0 b.v.f1 b.v.f2 b.v.f3 W ha.1.1 hb.1.1 ha.2 hb.2
  unfold twoC
  rw [if_neg (fun h=>h he)]
  exact h
 gone:=good_oneU
 gtwo:=good_twoU
set_option maxRecDepth 100000 in
set_option maxHeartbeats 4000000 in
theorem reval_c (A : Option Addr) (c : Nat) (e : List S41) (A' : Option Addr) (c' : Nat) (r : List S29) (w : World) (hC : Kd.C k41 w A e.length e) (hc : e.length ≤ c) (hC' : Kd.C k29 w A' r.length r) (hc' : r.length ≤ c')
  (hd : ∀ d ∈ e,I64 d.f2.f1 ∧ U64 d.f2.f2) (hr : ∀ x ∈ r,I64 x.f1 ∧ U64 x.f2) :
  Calls Tryz.prog 12 #[.slice A e.length c,.slice A' r.length c'] w fun en w'=>en = .returned (.tuple #[.agg #[.int .i64 (evalE e r).v.f0,.int .i64 (evalE e r).v.f1,.int .u64 (evalE e r).v.f2,.string (evalE e r).v.f3],.int .i64 (evalE e r).e]) ∧ Below w.heap.size w w':=by
 obtain ⟨W0,hW0⟩ : ∃ W0,w.alloc (.cells #[.int .i64 0,.int .i64 0,.int .u64 0,.string ⟨#[]⟩] 29) = W0:=⟨_,rfl⟩
 have HB0:=hidF (show Below w.heap.size w W0 by rw [← hW0];exact below_box w _)
 have RS:=hidF (fun W (hb : Below w.heap.size w W)=>rrsound_c A' c' r W (Kd.C_below hC' hb) hc' (fun x hx=>(hr x hx).2))
 have ES:=hidF (fun W (hb : Below w.heap.size w W)=>resound_c A c e (r.length : Int) W (Kd.C_below hC hb) hc (fun d hdm=>(hd d hdm).2))
 have bf : ∀ j,W0.frozen? ⟨w.heap.size,j,none⟩ = false:=fun j=>by rw [← hW0];exact blk_frozen (heap_alloc_new w _) j
 have b0 : W0.cell? ⟨w.heap.size,0,none⟩ = some (.int .i64 0):=by rw [← hW0];exact (blk_cell (heap_alloc_new w _) 0).trans rfl
 have b1 : W0.cell? ⟨w.heap.size,1,none⟩ = some (.int .i64 0):=by rw [← hW0];exact (blk_cell (heap_alloc_new w _) 1).trans rfl
 have b2 : W0.cell? ⟨w.heap.size,2,none⟩ = some (.int .u64 0):=by rw [← hW0];exact (blk_cell (heap_alloc_new w _) 2).trans rfl
 have b3 : W0.cell? ⟨w.heap.size,3,none⟩ = some (.string ⟨#[]⟩):=by rw [← hW0];exact (blk_cell (heap_alloc_new w _) 3).trans rfl
 have hz0 : w.heap.size < W0.heap.size:=by rw [← hW0];simp
 cases s1 : soundL r
 ·have hE : evalE e r = ⟨zV,1⟩:=by unfold evalE;rw [s1];rfl
  rw [hE]
  rw [s1] at RS
  clear hC hC' hd hr hc hc' s1 hE ES
  go_enter Tryz.func12,Tryz.ntmps12
  go_wp2_with (go_at_call 38;((with_reducible refine (RS.out _ HB0.out).mono ?_);rintro en w1 ⟨rfl,hb1⟩;have HB1:=hidF (HB0.out.trans (hb1.mono HB0.out.size));have c0:=keepC6 hb1 b0;have c1:=keepC6 hb1 b1;have c2:=keepC6 hb1 b2;have c3:=keepC6 hb1 b3;have f : ∀ j,w1.frozen? ⟨w.heap.size,j,none⟩ = false:=fun j=>(hb1.frozen (p:=⟨w.heap.size,j,none⟩) hz0).trans (bf j);have f0:=f 0;have f1:=f 1;have f2:=f 2;have f3:=f 3;clear hb1 f))
  exact bodyPost_ret (v:=.tuple #[.agg #[.int .i64 0,.int .i64 0,.int .u64 0,.string ⟨#[]⟩],.int .i64 1]) (by simp [results,Tryz.results12,go_sem, *]) rfl ⟨rfl,((((HB1.out.setCell (p:=⟨w.heap.size,0,none⟩) (Nat.le_refl _) _).setCell (p:=⟨w.heap.size,1,none⟩) (Nat.le_refl _) _).setCell (p:=⟨w.heap.size,2,none⟩) (Nat.le_refl _) _).setCell (p:=⟨w.heap.size,3,none⟩) (Nat.le_refl _) _)⟩
 ·cases s2 : soundE e (r.length : Int)
  ·have hE : evalE e r = ⟨zV,1⟩:=by unfold evalE;rw [s1,s2];rfl
   rw [hE]
   rw [s1] at RS
   rw [s2] at ES
   clear hC hC' hd hr hc hc' s1 s2 hE
   go_enter Tryz.func12,Tryz.ntmps12
   go_wp2_with (first
    | (go_at_call 38;((with_reducible refine (RS.out _ HB0.out).mono ?_);rintro en w1 ⟨rfl,hb1⟩;have HB1:=hidF (HB0.out.trans (hb1.mono HB0.out.size));have c0:=keepC6 hb1 b0;have c1:=keepC6 hb1 b1;have c2:=keepC6 hb1 b2;have c3:=keepC6 hb1 b3;have f : ∀ j,w1.frozen? ⟨w.heap.size,j,none⟩ = false:=fun j=>(hb1.frozen (p:=⟨w.heap.size,j,none⟩) hz0).trans (bf j);have hz1 : w.heap.size < w1.heap.size:=Nat.lt_of_lt_of_le hz0 hb1.size;clear hb1))
    | (go_at_call 14;((with_reducible refine (ES.out _ HB1.out).mono ?_);rintro en w2 ⟨rfl,hb2⟩;have HB2:=hidF (HB1.out.trans (hb2.mono HB1.out.size));have d0:=keepC6 hb2 c0;have d1:=keepC6 hb2 c1;have d2:=keepC6 hb2 c2;have d3:=keepC6 hb2 c3;have g : ∀ j,w2.frozen? ⟨w.heap.size,j,none⟩ = false:=fun j=>(hb2.frozen (p:=⟨w.heap.size,j,none⟩) hz1).trans (f j);have g0:=g 0;have g1:=g 1;have g2:=g 2;have g3:=g 3;clear hb2 g)))
   exact bodyPost_ret (v:=.tuple #[.agg #[.int .i64 0,.int .i64 0,.int .u64 0,.string ⟨#[]⟩],.int .i64 1]) (by simp [results,Tryz.results12,go_sem, *]) rfl ⟨rfl,((((HB2.out.setCell (p:=⟨w.heap.size,0,none⟩) (Nat.le_refl _) _).setCell (p:=⟨w.heap.size,1,none⟩) (Nat.le_refl _) _).setCell (p:=⟨w.heap.size,2,none⟩) (Nat.le_refl _) _).setCell (p:=⟨w.heap.size,3,none⟩) (Nat.le_refl _) _)⟩
  ·obtain ⟨x,hx,_⟩:=runC_one r s2
   have hE : evalE e r = x:=by unfold evalE;rw [s1,s2];simp [hx]
   have hZ : (if x.e = 0 then x.v else zV) = x.v:=by
    by_cases h : x.e = 0
    ·rw [if_pos h]
    ·rw [if_neg h];exact (run_errZ r e x (by rw [hx];simp) h).symm
   rw [s1] at RS
   rw [s2] at ES
   have h:=reval_run A c e A' c' r w hC hC' (rfn r) (soundE_iff.1 s2).1 (soundE_iff.1 s2).2 hr hd x hx (fun W hb=>RS.out W hb) (fun W hb=>ES.out W hb)
   rw [hZ] at h
   rw [hE]
   exact h
def xrEval.f (l : List S41) (m : List S29) : Option (Int × Int × Int × ByteArray × Int) :=
 if rngD l = true ∧ rngL m = true then some ((evalE l m).v.f0,(evalE l m).v.f1,(evalE l m).v.f2,(evalE l m).v.f3,(evalE l m).e) else none
theorem xrEval.calls (A0 : Option Addr) (c0 : Nat) (l : List S41) (A1 : Option Addr) (c1 : Nat) (m : List S29) (r1 r2 r3 : Int) (r4 : ByteArray) (r5 : Int) (w : World) (hr0 : Kd.C k41 w A0 l.length l) (hc0 : l.length ≤ c0) (hr1 : Kd.C k29 w A1 m.length m) (hc1 : m.length ≤ c1) (h : xrEval.f l m = some (r1,r2,r3,r4,r5)) :
  Calls Tryz.prog 12 #[.slice A0 l.length c0,.slice A1 m.length c1] w fun e w'=>e = .returned (.tuple #[.agg #[.int .i64 r1,.int .i64 r2,.int .u64 r3,.string r4],.int .i64 r5]) ∧ Below w.heap.size w w':=by
 obtain ⟨⟨hl,hm⟩,he⟩:=ext_of h
 simp only [Prod.mk.injEq] at he
 obtain ⟨rfl,rfl,rfl,rfl,rfl⟩:=he
 exact reval_c A0 c0 l A1 c1 m w hr0 hc0 hr1 hc1 (fun d hd=>⟨(rngD_at hl d hd).2.1,(rngD_at hl d hd).2.2⟩) (fun x hx=>⟨rngL_I hm x hx,rngL_U hm x hx⟩)
end Go.Proofs.YtakcjiinchghaaaGreatDoor
end
