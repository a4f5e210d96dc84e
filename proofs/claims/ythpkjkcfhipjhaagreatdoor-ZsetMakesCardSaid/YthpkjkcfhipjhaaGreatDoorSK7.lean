/- a part of the claim: what the card leans on, out of the texts VR4, XRZ (put together by wip/tools/shake.py). -/
import Derived.Test.YthpkjkcfhipjhaaGreatDoorSK3
import Derived.Test.YthpkjkcfhipjhaaGreatDoorSK4
import Derived.Test.YthpkjkcfhipjhaaGreatDoorSK5
import Derived.Test.YthpkjkcfhipjhaaGreatDoorSK6
section
namespace Go.Proofs.YthpkjkcfhipjhaaGreatDoor
set_option linter.unusedVariables false
set_option linter.unusedSimpArgs false
open Go.RowKit Go.Proofs.YthpkjkcfhipjhaaGreatDoorW.PrintWords
open PRS
def numsL (l : List UInt8) : List Int:=l.map fun b=>(b.toNat : Int)
theorem numsL_len (l : List UInt8) : (numsL l).length = l.length:=by simp [numsL]
theorem numsL_app (l m : List UInt8) : numsL (l ++ m) = numsL l ++ numsL m:=by simp [numsL]
theorem strOf_numsL (l : List UInt8) : strOfNums (numsL l) = ⟨l.toArray⟩:=by
 unfold strOfNums numsL
 rw [List.map_map]
 have : l.map ((fun n : Int=>UInt8.ofNat n.toNat) ∘ fun b : UInt8=>(b.toNat : Int)) = l:=by induction l <;> simp_all
 rw [this]
theorem ba_nil (s : ByteArray) : s ++ ⟨#[]⟩ = s:=by apply ByteArray.ext;simp
theorem w64 {n : Int} (h0 : -9223372036854775808 ≤ n) (h1 : n ≤ 9223372036854775807) : wrap64 n = n:=by unfold wrap64;omega
theorem wu64 {n : Int} (h0 : 0 ≤ n) (h1 : n < 18446744073709551616) : IntKind.u64.wrap n = n:=by rw [IntKind.wrap_u64];omega
/-- the digits, the last first -/
def rdig (u : Nat) : List UInt8:=(Lib.decDigits u).reverse
theorem rdig_lt {u : Nat} (h : u < 10) : rdig u = [UInt8.ofNat (48 + u)]:=by unfold rdig;rw [Lib.decDigits,dif_pos h];rfl
theorem rdig_ge {u : Nat} (h : ¬ u < 10) : rdig u = UInt8.ofNat (48 + u % 10) :: rdig (u / 10):=by unfold rdig;rw [Lib.decDigits,dif_neg h];simp
theorem dig1 (u : Nat) : (IntKind.u64.wrap (48 + Int.tmod (u : Int) 10)) % 256 = ((UInt8.ofNat (48 + u % 10)).toNat : Int):=by
 have h1 : Int.tmod (u : Int) 10 = ((u % 10 : Nat) : Int):=rfl
 rw [h1,wu64 (by omega) (by omega)]
 have h2 : (UInt8.ofNat (48 + u % 10)).toNat = 48 + u % 10:=by simp;omega
 rw [h2];omega
theorem dig2 (u : Nat) (h : u < 10) : (IntKind.u64.wrap (48 + (u : Int))) % 256 = ((UInt8.ofNat (48 + u)).toNat : Int):=by
 rw [wu64 (by omega) (by omega)]
 have h2 : (UInt8.ofNat (48 + u)).toNat = 48 + u:=by simp;omega
 rw [h2];omega
theorem dig3 (u : Nat) (h : u < 18446744073709551616) : IntKind.u64.wrap (Int.tdiv (u : Int) 10) = ((u / 10 : Nat) : Int):=by
 have h1 : Int.tdiv (u : Int) 10 = ((u / 10 : Nat) : Int):=rfl
 rw [h1,wu64 (by omega) (by omega)]
theorem l1_ev (L : List UInt8) (hL : L.length ≤ 100) : ∀ (i : Nat) (s : ByteArray),i ≤ L.length → s.size + i ≤ 1000 → Ev (fun k=>freshetref01_digits.l1 k (numsL L) s ((i : Int) - 1)) (s ++ ⟨((L.take i).reverse).toArray⟩)
 | 0,s,_,_=>by
  refine Ev.step (f:=fun _=>some s) (fun k=>?_) (by simpa [ba_nil] using Ev.now s)
  simp only [freshetref01_digits.l1];rw [if_neg (by omega)]
 | i + 1,s,hi,hs=>by
  have ih:=l1_ev L hL i (s ++ ⟨#[L[i]]⟩) (by omega) (by simp [ByteArray.size_append];show s.size + 1 + i ≤ 1000;omega)
  have e : s ++ ⟨((L.take (i + 1)).reverse).toArray⟩ = (s ++ ⟨#[L[i]]⟩) ++ ⟨((L.take i).reverse).toArray⟩:=by
   rw [List.take_succ_eq_append_getElem (by omega),List.reverse_append];apply ByteArray.ext;simp [-List.take_append_getElem]
  rw [e]
  refine Ev.step (fun k=>?_) ih
  simp only [freshetref01_digits.l1]
  have h1 : ((i + 1 : Nat) : Int) - 1 = (i : Int):=by omega
  rw [h1,if_pos (by omega),if_pos (by omega),w64 (by omega) (by omega),if_pos (by omega),if_pos (by rw [numsL_len];omega)]
  have h2 : ((numsL L).take ((i : Int) + 1).toNat).drop ((i : Int)).toNat = numsL [L[i]]:=by
   rw [show ((i : Int) + 1).toNat = i + 1 by omega,show ((i : Int)).toNat = i by omega]
   simp only [numsL,← List.map_take,← List.map_drop]
   rw [List.take_succ_eq_append_getElem (by omega),List.drop_append_of_le_length (by simp;omega),List.drop_of_length_le (by simp;omega)];rfl
  rw [h2]
  simp only [Option.bind_some,strOf_numsL]
  rw [if_pos (by show s.size + 1 ≤ _;omega),w64 (by omega) (by omega)]
theorem j2_ev (L : List UInt8) (hL : L.length ≤ 100) : Ev (fun k=>freshetref01_digits.j2 k (numsL L)) ⟨L.reverse.toArray⟩:=by
 have h:=l1_ev L hL L.length ⟨#[]⟩ (Nat.le_refl _) (by show 0 + _ ≤ _;omega)
 rw [List.take_length] at h
 have e : (⟨#[]⟩ ++ ⟨L.reverse.toArray⟩ : ByteArray) = ⟨L.reverse.toArray⟩:=by apply ByteArray.ext;simp
 rw [e] at h
 refine Ev.step (fun k=>?_) h
 simp only [freshetref01_digits.j2]
 rw [numsL_len,w64 (by omega) (by omega)]
theorem l0_end (n : Int) (u : Nat) (l : List UInt8) (hu : u < 10) (hl : l.length ≤ 30) :
  Ev (fun k=>freshetref01_digits.l0 k n u (numsL l)) ⟨(l ++ rdig u ++ (if n < 0 then [45] else [])).reverse.toArray⟩:=by
 rw [rdig_lt hu]
 have e1 : numsL l ++ [(IntKind.u64.wrap (48 + (u : Int))) % 256] = numsL (l ++ [UInt8.ofNat (48 + u)]):=by rw [dig2 u hu,numsL_app];rfl
 by_cases hn : n < 0
 ·rw [if_pos hn]
  refine Ev.step (fun k=>?_) (j2_ev (l ++ [UInt8.ofNat (48 + u)] ++ [45]) (by simp;omega))
  simp only [freshetref01_digits.l0]
  rw [if_neg (by omega),if_pos (by rw [numsL_len];omega),e1]
  simp only [Option.bind_some]
  rw [if_pos hn,if_pos (by rw [numsL_len];simp;omega),numsL_app (l ++ [UInt8.ofNat (48 + u)])];rfl
 ·rw [if_neg hn,List.append_nil]
  refine Ev.step (fun k=>?_) (j2_ev (l ++ [UInt8.ofNat (48 + u)]) (by simp;omega))
  simp only [freshetref01_digits.l0]
  rw [if_neg (by omega),if_pos (by rw [numsL_len];omega),e1]
  simp only [Option.bind_some]
  rw [if_neg hn]
theorem l0_ev (n : Int) : ∀ (d u : Nat) (l : List UInt8),u < 10 ^ (d + 1) → u < 18446744073709551616 → l.length + d ≤ 30 →
  Ev (fun k=>freshetref01_digits.l0 k n u (numsL l)) ⟨(l ++ rdig u ++ (if n < 0 then [45] else [])).reverse.toArray⟩
 | 0,u,l,h,_,hl=>l0_end n u l (by simpa using h) (by omega)
 | d + 1,u,l,h,h64,hl=>by
  by_cases hu : u < 10
  ·exact l0_end n u l hu (by omega)
  ·have ih:=l0_ev n d (u / 10) (l ++ [UInt8.ofNat (48 + u % 10)]) (by rw [Nat.pow_succ] at h;omega) (by omega) (by simp;omega)
   rw [rdig_ge hu]
   rw [show l ++ (UInt8.ofNat (48 + u % 10) :: rdig (u / 10)) = l ++ [UInt8.ofNat (48 + u % 10)] ++ rdig (u / 10) by simp]
   refine Ev.step (fun k=>?_) ih
   simp only [freshetref01_digits.l0]
   rw [if_pos (by omega),if_pos (by rw [numsL_len];omega),dig3 u h64,dig1,numsL_app];rfl
theorem digits_ev (n : Int) (h : I64 n) : Ev (fun k=>freshetref01_digits.f k n) ⟨(Lib.itoa n).toArray⟩:=by
 obtain ⟨h0,h1⟩:=h
 have key : ∀ u : Nat,u < 10000000000000000000 → Ev (fun k=>freshetref01_digits.j0 k n u) ⟨(rdig u ++ (if n < 0 then [45] else [])).reverse.toArray⟩:=fun u hu=>by
  have:=l0_ev n 19 u [] (by omega) (by omega) (by simp)
  rw [List.nil_append] at this
  refine Ev.step (fun k=>?_) this
  simp only [freshetref01_digits.j0];rfl
 unfold Lib.itoa
 by_cases hn : n < 0
 ·have k:=key n.natAbs (by omega)
  rw [if_pos hn] at k ⊢
  have e : (rdig n.natAbs ++ [45]).reverse = 45 :: Lib.decDigits n.natAbs:=by simp [rdig]
  rw [e] at k
  refine Ev.congr (fun m=>?_) k
  simp only [freshetref01_digits.f]
  rw [if_pos hn]
  congr 1
  rw [IntKind.wrap_u64,IntKind.wrap_u64];omega
 ·have k:=key n.toNat (by omega)
  rw [if_neg hn,List.append_nil] at k
  rw [if_neg hn]
  have e : (rdig n.toNat).reverse = Lib.decDigits n.toNat:=by simp [rdig]
  rw [e] at k
  refine Ev.congr (fun m=>?_) k
  simp only [freshetref01_digits.f]
  rw [if_neg hn]
  congr 1
  rw [IntKind.wrap_u64];omega
theorem bt_at_nat (s : ByteArray) (k : Nat) (h : k < s.size) : bt s (k : Int) = (s[k].toNat : Int):=by
 unfold bt;rw [dif_pos (by simpa using h)];rfl
theorem bt_hex (n : Nat) (h : n < 16) : bt (⟨#[48,49,50,51,52,53,54,55,56,57,97,98,99,100,101,102]⟩ : ByteArray) (n : Int) = ((hexD n).toNat : Int):=by
 have : ∀ n : Fin 16,bt (⟨#[48,49,50,51,52,53,54,55,56,57,97,98,99,100,101,102]⟩ : ByteArray) (n.1 : Int) = ((hexD n.1).toNat : Int):=by decide +kernel
 exact this ⟨n,h⟩
theorem quoted_ev (s : ByteArray) (hs : s.size ≤ 4096) : Ev (fun k=>freshetref01_Quoted.f k s) ⟨(quotedL s.data.toList).toArray⟩:=by
 have main : ∀ d k : Nat,k + d = s.size → Ev (fun m=>freshetref01_Quoted.l0 m s (numsL (partQ s k)) (k : Int)) ⟨(quotedL s.data.toList).toArray⟩:=by
  intro d
  induction d with
  | zero =>
   intro k hk
   obtain rfl : k = s.size:=by omega
   have hl:=partQ_len s s.size (Nat.le_refl _)
   have hq : partQ s s.size ++ [39] = quotedL s.data.toList:=by
    have : s.data.toList.take s.size = s.data.toList:=List.take_of_length_le (by simp)
    simp only [partQ,quotedL,this,List.cons_append]
   refine Ev.step (f:=fun _=>some _) (fun m=>?_) (Ev.now _)
   simp only [freshetref01_Quoted.l0]
   rw [if_neg (by omega),if_pos (by rw [numsL_len];omega),show numsL (partQ s s.size) ++ [39] = numsL (quotedL s.data.toList) by rw [← hq,numsL_app];rfl,strOf_numsL]
  | succ d ih =>
   intro k hk
   have hlt : k < s.size:=by omega
   have hl:=partQ_len s k (by omega)
   have hn:=ih (k + 1) (by omega)
   have hb:=bt_at_nat s k hlt
   have hc:=s[k].toNat_lt
   rw [partQ_succ s k hlt,numsL_app] at hn
   have h1 : ((k + 1 : Nat) : Int) = wrap64 ((k : Int) + 1):=by rw [w64 (by omega) (by omega)];omega
   rw [h1] at hn
   have j1 : ∀ b,b = (decide (s[k].toNat < 32) || decide (126 < s[k].toNat) || s[k] == 92) → Ev (fun m=>freshetref01_Quoted.j1 m s (numsL (partQ s k)) (k : Int) (s[k].toNat : Int) b) ⟨(quotedL s.data.toList).toArray⟩:=by
    intro b hbb
    refine Ev.step (fun m=>?_) hn
    simp only [freshetref01_Quoted.j1]
    cases b with
    | true =>
     have hodd : oddB s[k] = true:=hbb.symm
     have h39 : s[k] ≠ 39:=by rintro e;rw [e] at hodd;revert hodd;decide
     have he : escL s[k] = [92,120,hexD (s[k].toNat / 16),hexD (s[k].toNat % 16)]:=by unfold escL;rw [if_neg h39,if_pos hodd]
     have ha:=and15 s[k]
     have e1 : ((s[k].toNat : Int) / 16) = ((s[k].toNat / 16 : Nat) : Int):=by simp
     have e2 : ((s[k].toNat : Int) % 16) = ((s[k].toNat % 16 : Nat) : Int):=by simp
     rw [if_pos rfl,ha,e1,e2,if_pos (by omega),if_pos (by omega),if_pos (by omega),if_pos (by omega),bt_hex _ (by omega),bt_hex _ (by omega)]
     simp only [Option.bind_some]
     rw [if_pos (by rw [numsL_len];simp;omega),he];rfl
    | false =>
     have hodd : oddB s[k] = false:=hbb.symm
     rw [if_neg (by simp),if_pos (by rw [numsL_len];omega)]
     simp only [Option.bind_some]
     by_cases h39 : s[k] = 39
     ·have he : escL s[k] = [39,39]:=by unfold escL;rw [if_pos h39]
      rw [if_pos (by rw [h39];rfl),if_pos (by simp [numsL_len];omega),he,h39,List.append_assoc];rfl
     ·have he : escL s[k] = [s[k]]:=by unfold escL;rw [if_neg h39,if_neg (by simp [hodd])]
      rw [if_neg (fun e=>h39 (UInt8.toNat_inj.1 (by show _ = 39;omega))),he];rfl
   have p92 : ((s[k].toNat : Int) == 92) = (s[k] == 92):=by
    rw [Bool.eq_iff_iff];simp only [beq_iff_eq,← UInt8.toNat_inj]
    show ((s[k].toNat : Int) = 92) ↔ s[k].toNat = 92
    omega
   by_cases a1 : s[k].toNat < 32
   ·refine Ev.step (fun m=>?_) (j1 true (by simp [a1]))
    simp only [freshetref01_Quoted.l0]
    rw [if_pos (by omega),if_pos (by omega),hb,if_pos (by omega)]
   ·by_cases a2 : 126 < s[k].toNat
    ·refine Ev.step (fun m=>?_) (j1 true (by simp [a2]))
     simp only [freshetref01_Quoted.l0]
     rw [if_pos (by omega),if_pos (by omega),hb,if_neg (by omega),if_pos (by omega)]
    ·refine Ev.step (fun m=>?_) (j1 (s[k] == 92) (by simp [a1,a2]))
     simp only [freshetref01_Quoted.l0]
     rw [if_pos (by omega),if_pos (by omega),hb,if_neg (by omega),if_neg (by omega),p92]
 exact main s.size 0 (by omega)
theorem hexP_cons (n u : Nat) : hexP (n + 1) u = hexD (u / 16 ^ n % 16) :: hexP n u:=by
 induction n generalizing u with
 | zero=>simp [hexP]
 | succ n ih =>
  rw [hexP,ih (u / 16)]
  simp only [hexP,List.cons_append]
  rw [Nat.div_div_eq_div_mul,Nat.pow_succ,Nat.mul_comm]
theorem hex_cut (n : Nat) (h : n < 16) : (⟨#[48,49,50,51,52,53,54,55,56,57,97,98,99,100,101,102]⟩ : ByteArray).extract n (n + 1) = ⟨#[hexD n]⟩:=by
 have : ∀ n : Fin 16,(⟨#[48,49,50,51,52,53,54,55,56,57,97,98,99,100,101,102]⟩ : ByteArray).extract n.1 (n.1 + 1) = ⟨#[hexD n.1]⟩:=by decide +kernel
 exact this ⟨n,h⟩
theorem show_l0_ev (f : Nat) (hf : f < 18446744073709551616) (a b : Int) (t : ByteArray) : ∀ (j : Nat) (s : ByteArray),j ≤ 16 → s.size + j ≤ 100 → Ev (fun k=>freshetref01_Show.l0 k s (4 * (j : Int) - 4) a b f t) (s ++ ⟨(hexP j f).toArray⟩)
 | 0,s,_,_=>by
  refine Ev.step (f:=fun _=>some s) (fun k=>?_) (by simpa [hexP,ba_nil] using Ev.now s)
  simp only [freshetref01_Show.l0];rw [if_neg (by omega)]
 | j + 1,s,hj,hs=>by
  have ih:=show_l0_ev f hf a b t j (s ++ ⟨#[hexD (f / 16 ^ j % 16)]⟩) (by omega) (by simp [ByteArray.size_append];show s.size + 1 + j ≤ 100;omega)
  have e : s ++ ⟨(hexP (j + 1) f).toArray⟩ = (s ++ ⟨#[hexD (f / 16 ^ j % 16)]⟩) ++ ⟨(hexP j f).toArray⟩:=by
   rw [hexP_cons];apply ByteArray.ext;simp
  rw [e]
  refine Ev.step (fun k=>?_) ih
  simp only [freshetref01_Show.l0]
  have h1 : 4 * ((j + 1 : Nat) : Int) - 4 = 4 * (j : Int):=by omega
  rw [h1,wu64 (by omega) (by omega)]
  have h2 : shr .u64 (f : Int) (4 * (j : Int)) = ((f / 16 ^ j : Nat) : Int):=by
   unfold shr
   have : min (4 * (j : Int)).toNat IntKind.u64.bits = 4 * j:=by
    rw [show (4 * (j : Int)).toNat = 4 * j by omega];exact Nat.min_eq_left (by show _ ≤ 64;omega)
   rw [this,show (2 : Int) ^ (4 * j) = ((16 ^ j : Nat) : Int) by rw [Int.pow_mul];simp]
   simp
  have hlt : f / 16 ^ j < 18446744073709551616:=Nat.lt_of_le_of_lt (Nat.div_le_self _ _) hf
  rw [h2,andm _ hlt]
  generalize hp : f / 16 ^ j % 16 = p at *
  have hp16 : p < 16:=by omega
  rw [if_pos (by omega),if_pos (by omega),if_pos (by omega),wu64 (by omega) (by omega),if_pos (by omega),if_pos (by omega)]
  rw [show ((p : Int)).toNat = p by omega,show ((p : Int) + 1).toNat = p + 1 by omega,hex_cut p hp16]
  rw [if_pos (by show s.size + 1 ≤ _;omega),w64 (by omega) (by omega)]
theorem rShow_ev (k n f : Int) (t : ByteArray) (hn : I64 n) (hf : U64 f) : Ev (fun m=>freshetref01_Show.f m k n f t) ⟨(showL k n f t).toArray⟩:=by
 have hs : xrSound.f k n f t = some (soundV k n f t):=by unfold xrSound.f;exact if_pos hf
 unfold freshetref01_Show.f showL
 rw [hs]
 simp only [Option.bind_some]
 cases h : soundV k n f t with
 | false=>simpa using Ev.now _
 | true =>
  simp only [Bool.not_true,Bool.false_eq_true,if_false,if_true]
  by_cases k0 : k = 0
  ·simp only [k0,if_true];exact Ev.now _
  ·simp only [k0,if_false]
   by_cases k1 : k = 1
   ·simp only [k1,if_true]
    by_cases n1 : n = 1
    ·simp only [n1,if_true];exact Ev.now _
    ·simp only [n1,if_false]
     have : (n == 1) = false:=by simpa using n1
     rw [this];exact Ev.now _
   ·simp only [k1,if_false]
    by_cases k2 : k = 2
    ·simp only [k2,if_true];simpa using digits_ev n hn
    ·simp only [k2,if_false]
     by_cases k4 : k = 4
     ·simp only [k4,if_true]
      subst k4
      have e:=h
      simp [soundV,eqV] at e
      obtain ⟨⟨rfl,rfl⟩,h4⟩:=e
      simpa using quoted_ev t h4
     ·simp only [k4,if_false]
      obtain ⟨h0,h1⟩:=hf
      obtain ⟨m,rfl⟩:=Int.eq_ofNat_of_zero_le h0
      have:=show_l0_ev m (by omega) k n t 16 ⟨#[48,120]⟩ (by omega) (by decide)
      have e : (⟨#[48,120]⟩ ++ ⟨(hexP 16 m).toArray⟩ : ByteArray) = ⟨([48,120] ++ hexP 16 m).toArray⟩:=by apply ByteArray.ext;simp
      rw [e] at this
      exact this
end Go.Proofs.YthpkjkcfhipjhaaGreatDoor
end
section
namespace Go.Proofs.YthpkjkcfhipjhaaGreatDoor
set_option linter.unusedVariables false
set_option linter.unusedSimpArgs false
open Go.RowKit Go.Proofs.YthpkjkcfhipjhaaGreatDoorW.PrintWords Go.Proofs.YthpkjkcfhipjhaaGreatDoorW.PrintLast
def xrCompare.f (k n f : Int) (t : ByteArray) (k' n' f' : Int) (t' : ByteArray) : Option Int:=if (0 ≤ f ∧ f < 18446744073709551616) ∧ (0 ≤ f' ∧ f' < 18446744073709551616) then some (cmpV k n f t k' n' f' t') else none
theorem xrCompare.calls (k n f : Int) (t : ByteArray) (k' n' f' : Int) (t' : ByteArray) (r : Int) (w : World) (h : xrCompare.f k n f t k' n' f' t' = some r) :
  Calls Tryz.prog 71 #[.agg #[.int .i64 k,.int .i64 n,.int .u64 f,.string t],.agg #[.int .i64 k',.int .i64 n',.int .u64 f',.string t']] w fun e w'=>e = .returned (.int .i64 r) ∧ Below w.heap.size w w':=by
 obtain ⟨⟨hn,hn'⟩,rfl⟩:=ext_of h
 exact rCompare_v k n f t k' n' f' t' w hn hn'
def xrShow.f (k n f : Int) (t : ByteArray) : Option ByteArray:=if (-9223372036854775808 ≤ n ∧ n ≤ 9223372036854775807) ∧ (0 ≤ f ∧ f < 18446744073709551616) then some ⟨(showL k n f t).toArray⟩ else none
theorem xrShow.calls (k n f : Int) (t : ByteArray) (r : ByteArray) (w : World) (h : xrShow.f k n f t = some r) :
  Calls Tryz.prog 52 #[.agg #[.int .i64 k,.int .i64 n,.int .u64 f,.string t]] w fun e w'=>e = .returned (.string r) ∧ Below w.heap.size w w':=by
 obtain ⟨⟨hn,hf⟩,rfl⟩:=ext_of h
 obtain ⟨m,hm⟩:=(rShow_ev k n f t hn hf).rounds
 exact PRS.freshetref01_Show.calls m k n f t _ w hm
end Go.Proofs.YthpkjkcfhipjhaaGreatDoor
end
