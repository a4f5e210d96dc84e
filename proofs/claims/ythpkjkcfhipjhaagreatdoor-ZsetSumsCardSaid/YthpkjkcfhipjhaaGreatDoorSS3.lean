/- a part of the claim: what the card leans on, out of the texts V10, V11, VR3, RP1, RP2 (put together by wip/tools/shake.py). -/
import Derived.Test.YthpkjkcfhipjhaaGreatDoorSS2
import Derived.Lib.VarintBits
section
namespace Go.Proofs.YthpkjkcfhipjhaaGreatDoor
set_option linter.unusedVariables false
set_option linter.unusedSimpArgs false
open Go.RowKit
def dB64 : List Int:=[0,1,56,2,57,49,28,3,61,58,42,50,38,29,17,4,62,47,59,36,45,43,51,22,53,39,33,30,24,18,12,5,63,55,48,27,60,41,37,16,46,35,44,21,52,32,23,11,54,26,40,15,34,20,31,10,25,14,19,9,13,8,7,6]
/-- the table of the lowest bits holds what its initialiser lays -/
def TabD (w : World) : Prop := Lib.TabIs Tryz.prog w "math/bits.deBruijn64tab" .u8 dB64
theorem TabD.below {w w' : World} (h : TabD w) (hb : Below w.heap.size w w') : TabD w':=Lib.tabBelow_of_tabIs h w' hb
theorem gDB : Tryz.prog.globalNamed "math/bits.deBruijn64tab" = some 6 := by kernel_rfl
/-- the digits, the highest first -/
def hexS : Nat → Nat → List UInt8
 | 0,_=>[]
 | k + 1,u=>if u < 16 then [hexD u] else hexS k (u / 16) ++ [hexD (u % 16)]
/-- just n digits -/
def hexP : Nat → Nat → List UInt8
 | 0,_=>[]
 | n + 1,u=>hexP n (u / 16) ++ [hexD (u % 16)]
theorem hexS_len (k u : Nat) : (hexS k u).length ≤ k:=by
 induction k generalizing u with
 | zero=>simp [hexS]
 | succ k ih=>unfold hexS;split <;> simp;have:=ih (u / 16);omega
theorem hexP_zero (n : Nat) : hexP n 0 = List.replicate n 48:=by
 induction n with
 | zero=>rfl
 | succ n ih=>simp only [hexP,Nat.zero_div,ih,Nat.zero_mod];rw [List.replicate_succ'];rfl
theorem hexP_S (n u : Nat) (h : u < 16 ^ n) : List.replicate (n - (hexS n u).length) 48 ++ hexS n u = hexP n u:=by
 induction n generalizing u with
 | zero=>simp [hexS,hexP]
 | succ n ih =>
  unfold hexS hexP
  split
  ·have h1 : u / 16 = 0:=by omega
   have h2 : u % 16 = u:=by omega
   rw [h1,h2,hexP_zero];simp
  ·have:=ih (u / 16) (by rw [Nat.pow_succ] at h;omega)
   rw [← this,List.length_append]
   simp only [List.length_cons,List.length_nil,List.append_assoc]
   have hl:=hexS_len n (u / 16)
   congr 2
   omega
theorem and15u (x : Nat) (h : x < 18446744073709551616) : bits .and .u64 (x : Int) 15 = (x : Int) % 16:=by
 have:=bits_mask .u64 64 (by decide) wraps_u64 4 (by decide) (x : Int) (by omega) (by omega)
 simpa using this
def hexZ : ByteArray:=⟨#[48,49,50,51,52,53,54,55,56,57,97,98,99,100,101,102,103,104,105,106,107,108,109,110,111,112,113,114,115,116,117,118,119,120,121,122]⟩
theorem hexZ_get (n : Nat) (h : n < 16) : hexZ.data[n]? = some (hexD n):=by
 have : ∀ n : Fin 16,hexZ.data[n.1]? = some (hexD n.1):=by decide
 exact this ⟨n,h⟩
theorem hexZ_size : hexZ.size = 36:=rfl
theorem hexZ_at (n : Nat) (h : n < 16) : hexZ[n]'(by rw [hexZ_size];omega) = hexD n:=by
 have h2:=hexZ_get n h
 have hlt : n < hexZ.size:=by rw [hexZ_size];omega
 have : hexZ.data[n]? = some hexZ[n]:=by rw [Array.getElem?_eq_getElem];rfl
 rw [this] at h2;exact Option.some.inj h2
theorem idx_hexZ (n : Nat) (h : n < 16) (m : Int) (hm : m = (n : Int)) (w : World) : (Instr.index 9 (.string ⟨#[48,49,50,51,52,53,54,55,56,57,97,98,99,100,101,102,103,104,105,106,107,108,109,110,111,112,113,114,115,116,117,118,119,120,121,122]⟩) (.int .u64 m)).run Tryz.prog w = .ok (.int .u8 (hexD n).toNat) w:=by
 have h1 : (⟨#[48,49,50,51,52,53,54,55,56,57,97,98,99,100,101,102,103,104,105,106,107,108,109,110,111,112,113,114,115,116,117,118,119,120,121,122]⟩ : ByteArray) = hexZ:=rfl
 subst hm
 rw [h1]
 have h2:=hexZ_get n h
 have hz:=hexZ_size
 have hlt : n < hexZ.size:=by omega
 have hg : hexZ[n] = hexD n:=by
  have : hexZ.data[n]? = some hexZ[n]:=by rw [Array.getElem?_eq_getElem];rfl
  rw [this] at h2;exact Option.some.inj h2
 have hlt' : ¬ 36 ≤ n:=by omega
 go_simp
 intro hh;exfalso;omega
set_option maxRecDepth 100000 in
set_option maxHeartbeats 2000000 in
theorem pow2_c (w : World) : Calls Tryz.prog 141 #[.int .i64 16] w fun e w'=>e = .returned (.bool true) ∧ w = w':=by
 have hb : bits .and .i64 16 15 = 0:=by decide +kernel
 go_enter Tryz.func141,Tryz.ntmps141
 go_wp2_with fail
 go_ret
 exact ⟨by simp,rfl⟩
set_option maxRecDepth 100000 in
set_option maxHeartbeats 2000000 in
theorem tz64_c (w : World) (ht : TabD w) : Calls Tryz.prog 148 #[.int .u64 16] w fun e w'=>e = .returned (.int .i64 4) ∧ w = w':=by
 have hcell:=Lib.TabIs.cell ht gDB 15 (by decide)
 have hv : dB64.getD 15 0 = 4:=by decide
 rw [hv] at hcell
 have hk : bits .and .u64 16 (IntKind.u64.wrap (-16)) = 16:=by decide +kernel
 have hw : IntKind.u64.wrap (16 * 285870213051353865) = 4573923408821661840:=by decide +kernel
 go_enter Tryz.func148,Tryz.ntmps148
 go_wp2_with fail
 go_ret
 exact ⟨by simp,rfl⟩
set_option maxRecDepth 100000 in
set_option maxHeartbeats 2000000 in
theorem tz_c (w : World) (ht : TabD w) : Calls Tryz.prog 142 #[.int .u64 16] w fun e w'=>e = .returned (.int .i64 4) ∧ w = w':=by
 go_enter Tryz.func142,Tryz.ntmps142
 go_wp2_with (go_at_call 148;refine (tz64_c _ ht).mono ?_;rintro e w' ⟨rfl,rfl⟩)
 go_ret
 exact ⟨rfl,rfl⟩
theorem andm (x : Nat) (h : x < 18446744073709551616) : (bits .and .u64 (x : Int) 15) = ((x % 16 : Nat) : Int):=by rw [and15u x h];simp
/-- the array behind the digits l, from place m on -/
def HexAt (g m : Nat) (l : List UInt8) (wr : World) : Prop :=
 (∀ j,j < 65 → ∃ v,wr.cell? ⟨g,j,none⟩ = some v) ∧ (∀ j c,l[j]? = some c → wr.cell? ⟨g,m + j,none⟩ = some (.int .u8 c.toNat)) ∧ ∀ j,wr.frozen? ⟨g,j,none⟩ = false
theorem HexAt.put {g m : Nat} {l : List UInt8} {wr : World} (h : HexAt g (m + 1) l wr) (hm : m < 65) (c : UInt8) : HexAt g m (c :: l) (wr.setCell ⟨g,m,none⟩ (.int .u8 c.toNat)):=by
 obtain ⟨h1,h2,h3⟩:=h
 refine ⟨fun j hj=>?_,fun j d hd=>?_,fun j=>by simp [h3]⟩
 ·by_cases e : j = m
  ·subst e;obtain ⟨v,hv⟩:=h1 j hj;exact ⟨_,World.cell?_setCell_same _ _ _ hv⟩
  ·obtain ⟨v,hv⟩:=h1 j hj
   exact ⟨v,by rw [World.cell?_setCell_other _ _ _ _ (fun x=>e (by injection x with _ x;exact x.symm))];exact hv⟩
 ·cases j with
  | zero =>
   simp at hd;subst hd
   obtain ⟨v,hv⟩:=h1 m hm;exact World.cell?_setCell_same _ _ _ hv
  | succ j =>
   simp at hd
   rw [World.cell?_setCell_other _ _ _ _ (fun x=>by injection x with _ x;omega),show m + (j + 1) = m + 1 + j by omega]
   exact h2 j d hd
theorem hexAt_new (w : World) (cs : Array Value) (T : TypeId) (h : cs.size = 65) : HexAt w.heap.size 65 [] (w.alloc (.cells cs T)):=by
 have hn:=heap_alloc_new w (.cells cs T)
 refine ⟨fun j hj=>?_,fun j c hc=>by simp at hc,fun j=>Lib.frozen_of_heap hn j⟩
 exact ⟨cs[j],by rw [Lib.cell_of_heap hn j];simp [Array.getElem?_eq_getElem,h,hj]⟩
theorem hex_two {v n : Nat} (h : v < 16 ^ (16 - n)) (hv : 16 ≤ v) : n + 1 ≤ 15:=by
 by_cases h1 : n + 1 ≤ 15
 ·exact h1
 ·exfalso
  have : 16 - n = 0 ∨ 16 - n = 1:=by omega
  rcases this with e | e <;> rw [e] at h <;> omega
theorem HexAt.drew {g m : Nat} {l : List UInt8} {wr : World} (h : HexAt g m l wr) : HexAt g m l wr.drew:=h
set_option maxRecDepth 100000 in
set_option maxHeartbeats 2000000 in
theorem fmtBits_c (u : Nat) (w : World) (hu : u < 18446744073709551616) (ht : TabD w) :
  Calls Tryz.prog 126 #[.slice none 0 0,.int .u64 u,.int .i64 16,.bool false,.bool false] w fun e w'=>e = .returned (.tuple #[.slice none 0 0,.string ⟨(hexS 16 u).toArray⟩]) ∧ Below w.heap.size w w':=by
 go_enter Tryz.func126,Tryz.ntmps126
 go_wp2_with (first | (go_at_call 141;refine (pow2_c _).mono ?_;rintro e w' ⟨rfl,rfl⟩) | (go_at_call 142;refine (tz_c _ (ht.below (by repeat (first | (with_reducible exact Below.refl _ _) | (with_reducible refine below_al ?_ _) | (with_reducible refine below_drewN ?_ _) | (with_reducible refine Below.drew ?_) | (with_reducible refine below_via (by assumption) ?_) | (with_reducible refine below_sc ?_ ?_ _;· (first | (simp;done) | (simp;omega) | omega)))))).mono ?_;rintro e w' ⟨rfl,rfl⟩))
 have hB0 : Below w.heap.size w (w.alloc (.cells (Array.replicate 65 (.int .u8 0)) 155)):=below_box _ _
 go_loopw [1,13] (fun x i wr=>∃ (m v : Nat) (l : List UInt8),x = .int .u64 v ∧ i = .int .i64 m ∧ m + l.length = 65 ∧ l.length ≤ 15 ∧ v < 16 ^ (16 - l.length) ∧ v < 18446744073709551616 ∧ Hid (hexS 16 u = hexS (16 - l.length) v ++ l) ∧ HexAt w.heap.size m l wr ∧ Below w.heap.size w wr) (fun x _ _=>(intOf x).toNat)
 case atStart=>exact ⟨65,u,[],rfl,rfl,rfl,by simp,by simp;omega,hu,Lib.hid (by simp),hexAt_new _ _ _ (by simp),below_box _ _⟩
 case round =>
  obtain ⟨m,v,l,rfl,rfl,hm,hl,hv,hv64,HE,hA,hBel⟩:=hrel
  obtain ⟨m,rfl⟩ : ∃ q,m = q + 1:=⟨m - 1,by omega⟩
  obtain ⟨old,hold⟩:=hA.1 m (by omega)
  have hfz:=hA.2.2 m
  have ha:=andm v hv64
  have hHA:=Lib.hid hA;clear hA
  have hmm : m < 65:=by omega
  have hll : l.length = 65 - (m + 1):=by omega
  have HL:=Lib.hid hll;clear hll hm
  have HV:=Lib.hid hv;clear hv
  by_cases hc : 16 ≤ v
  ·have hx:=fun w=>idx_hexZ (v % 16) (by omega) ((v % 16 : Nat) : Int) rfl w
   go_wp2_with fail
   go_roundw
   case rel =>
    have h2:=hex_two HV.out hc
    refine ⟨m,v / 16,hexD (v % 16) :: l,by go_num,by go_num, ?_, ?_, ?_,by omega, ?_, ?_, ?_⟩
    ·have:=HL.out;simp;omega
    ·simp;omega
    ·have h3:=HV.out
     rw [List.length_cons,show 16 - l.length = (16 - (l.length + 1)) + 1 by omega,Nat.pow_succ] at *
     omega
    ·refine Lib.hid ?_
     rw [HE.out,List.length_cons,show 16 - l.length = (16 - (l.length + 1)) + 1 by omega,hexS,if_neg (by omega)]
     simp
    ·rw [← hexZ_at (v % 16) (by omega)];exact hHA.out.put hmm _
    ·exact below_sc (p:=⟨w.heap.size,m,none⟩) (Nat.le_refl _) hBel _
   case measure=>simp [intOf];omega
  ·have hx:=fun w=>idx_hexZ v (by omega) (v : Int) rfl w
   have hA2:=(hHA.out.put hmm (hexD v))
   have hcv : ∀ cap,(convert 78 9 (.slice (some ⟨w.heap.size,m,none⟩) (65 - m) cap)).run Tryz.prog (wr.setCell ⟨w.heap.size,m,none⟩ (.int .u8 (hexD v).toNat)) = .ok (.string ⟨(hexD v :: l).toArray⟩) (wr.setCell ⟨w.heap.size,m,none⟩ (.int .u8 (hexD v).toNat)):=fun cap=>by
    have:=run_convert_bytes_back (P:=Tryz.prog) (wr.setCell ⟨w.heap.size,m,none⟩ (.int .u8 (hexD v).toNat)) 78 9 5 ⟨w.heap.size,m,none⟩ cap (hexD v :: l) Tryz.underlying78 Tryz.underlying5 Tryz.underlying9 (fun j hj=>by
     have:=hA2.2.1 j (hexD v :: l)[j] (List.getElem?_eq_getElem hj)
     rw [← this];congr 1;unfold Addr.add;split <;> simp_all)
    rw [show (hexD v :: l).length = 65 - m by have:=HL.out;simp;omega] at this
    exact this
   have hfin : hexS 16 u = hexD v :: l:=by
    rw [HE.out,show 16 - l.length = (15 - l.length) + 1 by omega,hexS,if_pos (by omega)];rfl
   have HF:=Lib.hid hfin;clear hfin hA2
   have hcv':=hcv (65 - m);clear hcv
   have hal : Tryz.prog.arrayLen 155 = 65:=by kernel_rfl
   have hm0 : (0 : Int) ≤ m:=by omega
   have hm1 : (m : Int) ≤ 65:=by omega
   go_wp2_with fail
   go_ret2
   exact ⟨by rw [HF.out];rfl,below_sc (p:=⟨w.heap.size,m,none⟩) (Nat.le_refl _) hBel _⟩
set_option maxRecDepth 100000 in
set_option maxHeartbeats 2000000 in
theorem fmtUint_c (u : Nat) (w : World) (hu : u < 18446744073709551616) (ht : TabD w) : Calls Tryz.prog 118 #[.int .u64 u,.int .i64 16] w fun e w'=>e = .returned (.string ⟨(hexS 16 u).toArray⟩) ∧ Below w.heap.size w w':=by
 go_enter Tryz.func118,Tryz.ntmps118
 go_wp2_with (go_at_call 126;refine (fmtBits_c _ _ hu ht).mono ?_;rintro e w' ⟨rfl,hb⟩;(try (replace hb:=below_undrew hb));(try (replace hb:=below_undrewN hb));obtain ⟨hc,hf⟩:=bcell hb;(try (have hz0 : w.heap.size < w'.heap.size:=(by have:=hb.size;(try simp at this);omega)));(try (have hz1 : w.heap.size + 1 < w'.heap.size:=(by have:=hb.size;(try simp at this);omega)));(try (have hz2 : w.heap.size + 2 < w'.heap.size:=(by have:=hb.size;(try simp at this);omega)));(try (have hz3 : w.heap.size + 3 < w'.heap.size:=(by have:=hb.size;(try simp at this);omega))))
 go_ret
 exact ⟨rfl,(by repeat (first | (with_reducible exact Below.refl _ _) | (with_reducible refine below_al ?_ _) | (with_reducible refine below_drewN ?_ _) | (with_reducible refine Below.drew ?_) | (with_reducible refine below_via (by assumption) ?_) | (with_reducible refine below_sc ?_ ?_ _;· (first | (simp;done) | (simp;omega) | omega))))⟩
set_option maxRecDepth 100000 in
set_option maxHeartbeats 2000000 in
theorem sFmtUint_c (u : Nat) (w : World) (hu : u < 18446744073709551616) (ht : TabD w) : Calls Tryz.prog 98 #[.int .u64 u,.int .i64 16] w fun e w'=>e = .returned (.string ⟨(hexS 16 u).toArray⟩) ∧ Below w.heap.size w w':=by
 go_enter Tryz.func98,Tryz.ntmps98
 go_wp2_with (go_at_call 118;refine (fmtUint_c _ _ hu ht).mono ?_;rintro e w' ⟨rfl,hb⟩;(try (replace hb:=below_undrew hb));(try (replace hb:=below_undrewN hb));obtain ⟨hc,hf⟩:=bcell hb;(try (have hz0 : w.heap.size < w'.heap.size:=(by have:=hb.size;(try simp at this);omega)));(try (have hz1 : w.heap.size + 1 < w'.heap.size:=(by have:=hb.size;(try simp at this);omega)));(try (have hz2 : w.heap.size + 2 < w'.heap.size:=(by have:=hb.size;(try simp at this);omega)));(try (have hz3 : w.heap.size + 3 < w'.heap.size:=(by have:=hb.size;(try simp at this);omega))))
 go_ret
 exact ⟨rfl,(by repeat (first | (with_reducible exact Below.refl _ _) | (with_reducible refine below_al ?_ _) | (with_reducible refine below_drewN ?_ _) | (with_reducible refine Below.drew ?_) | (with_reducible refine below_via (by assumption) ?_) | (with_reducible refine below_sc ?_ ?_ _;· (first | (simp;done) | (simp;omega) | omega))))⟩
end Go.Proofs.YthpkjkcfhipjhaaGreatDoor
end
section
namespace Go.Proofs.YthpkjkcfhipjhaaGreatDoor
set_option linter.unusedVariables false
set_option linter.unusedSimpArgs false
open Go.RowKit
/-- a value's text -/
def showL (k n f : Int) (t : ByteArray) : List UInt8 :=
 if !soundV k n f t then [] else if k = 0 then [78,85,76,76] else if k = 1 then Lib.formatBool (n == 1) else if k = 2 then Lib.itoa n
 else if k = 4 then quotedL t.data.toList else [48,120] ++ hexP 16 f.toNat
theorem repL (c : Nat) : Lib.repeatL (⟨#[48]⟩ : ByteArray).data.toList c = List.replicate c 48:=by
 induction c with
 | zero=>rfl
 | succ c ih=>rw [List.replicate_succ,← ih];rfl
theorem rep_c (c : Int) (w : World) (h0 : 0 ≤ c) (h1 : c ≤ 16) : Calls Tryz.prog 99 #[.string ⟨#[48]⟩,.int .i64 c] w fun e w'=>e = .returned (.string ⟨(List.replicate c.toNat 48).toArray⟩) ∧ Below w.heap.size w w':=by
 obtain ⟨n,rfl⟩:=Int.eq_ofNat_of_zero_le h0
 rw [show ((n : Int)).toNat = n from rfl,← repL n]
 exact Tryz.strings_Repeat ⟨#[48]⟩ n w (by omega) (by show 1 * n ≤ _;omega)
set_option maxRecDepth 100000 in
set_option maxHeartbeats 2000000 in
theorem show_no (k n f : Int) (t : ByteArray) (w : World) (hn : I64 n) (hs : soundV k n f t = false) : Calls Tryz.prog 72 #[.agg #[.int .i64 k,.int .i64 n,.int .u64 f,.string t]] w fun e w'=>e = .returned (.string ⟨#[]⟩) ∧ Below w.heap.size w w':=by
 have S:=Lib.hid (fun w=>sound_c k n f t w hn);rw [hs] at S;clear hs
 go_enter Tryz.func72,Tryz.ntmps72
 go_wp2_with (first | (go_at_call 67;(fail_if_success (have:=w1));((with_reducible refine (S.out _).mono ?_);rintro e w1 ⟨rfl,hb1⟩;(try (replace hb1:=below_undrew hb1));(try (replace hb1:=below_undrewN hb1));obtain ⟨hc1,hf1⟩:=bcell hb1;(try (have hz0_1 : w.heap.size < w1.heap.size:=(by have:=hb1.size;(try simp at this);omega))))))
 go_ret;exact ⟨rfl,(by repeat (first | (with_reducible exact Below.refl _ _) | (with_reducible refine below_al ?_ _) | (with_reducible refine below_drewN ?_ _) | (with_reducible refine Below.drew ?_) | (with_reducible refine below_via (by assumption) ?_) | (with_reducible refine below_sc ?_ ?_ _;· (first | (simp;done) | (simp;omega) | omega))))⟩
set_option maxRecDepth 100000 in
set_option maxHeartbeats 2000000 in
theorem show_null (n f : Int) (t : ByteArray) (w : World) (hn : I64 n) (hs : soundV 0 n f t = true) : Calls Tryz.prog 72 #[.agg #[.int .i64 0,.int .i64 n,.int .u64 f,.string t]] w fun e w'=>e = .returned (.string ⟨#[78,85,76,76]⟩) ∧ Below w.heap.size w w':=by
 have S:=Lib.hid (fun w=>sound_c 0 n f t w hn);rw [hs] at S;clear hs
 go_enter Tryz.func72,Tryz.ntmps72
 go_wp2_with (first | (go_at_call 67;(fail_if_success (have:=w1));((with_reducible refine (S.out _).mono ?_);rintro e w1 ⟨rfl,hb1⟩;(try (replace hb1:=below_undrew hb1));(try (replace hb1:=below_undrewN hb1));obtain ⟨hc1,hf1⟩:=bcell hb1;(try (have hz0_1 : w.heap.size < w1.heap.size:=(by have:=hb1.size;(try simp at this);omega))))))
 go_ret;exact ⟨rfl,(by repeat (first | (with_reducible exact Below.refl _ _) | (with_reducible refine below_al ?_ _) | (with_reducible refine below_drewN ?_ _) | (with_reducible refine Below.drew ?_) | (with_reducible refine below_via (by assumption) ?_) | (with_reducible refine below_sc ?_ ?_ _;· (first | (simp;done) | (simp;omega) | omega))))⟩
set_option maxRecDepth 100000 in
set_option maxHeartbeats 2000000 in
theorem show_bool (n f : Int) (t : ByteArray) (w : World) (hn : I64 n) (hs : soundV 1 n f t = true) : Calls Tryz.prog 72 #[.agg #[.int .i64 1,.int .i64 n,.int .u64 f,.string t]] w fun e w'=>e = .returned (.string ⟨(Lib.formatBool (n == 1)).toArray⟩) ∧ Below w.heap.size w w':=by
 have S:=Lib.hid (fun w=>sound_c 1 n f t w hn);rw [hs] at S;clear hs
 go_enter Tryz.func72,Tryz.ntmps72
 go_wp2_with (first | (first | (go_at_call 67;(fail_if_success (have:=w1));((with_reducible refine (S.out _).mono ?_);rintro e w1 ⟨rfl,hb1⟩;(try (replace hb1:=below_undrew hb1));(try (replace hb1:=below_undrewN hb1));obtain ⟨hc1,hf1⟩:=bcell hb1;(try (have hz0_1 : w.heap.size < w1.heap.size:=(by have:=hb1.size;(try simp at this);omega)))))) | (go_at_call 96;((with_reducible refine (Tryz.strconv_FormatBool _ _).mono ?_);rintro e w' ⟨rfl,rfl⟩)))
 go_ret;exact ⟨rfl,(by repeat (first | (with_reducible exact Below.refl _ _) | (with_reducible refine below_al ?_ _) | (with_reducible refine below_drewN ?_ _) | (with_reducible refine Below.drew ?_) | (with_reducible refine below_via (by assumption) ?_) | (with_reducible refine below_sc ?_ ?_ _;· (first | (simp;done) | (simp;omega) | omega))))⟩
set_option maxRecDepth 100000 in
set_option maxHeartbeats 2000000 in
theorem show_int (n f : Int) (t : ByteArray) (w : World) (hn : I64 n) (ht : Tab w) (hs : soundV 2 n f t = true) : Calls Tryz.prog 72 #[.agg #[.int .i64 2,.int .i64 n,.int .u64 f,.string t]] w fun e w'=>e = .returned (.string ⟨(Lib.itoa n).toArray⟩) ∧ Below w.heap.size w w':=by
 have S:=Lib.hid (fun w=>sound_c 2 n f t w hn);rw [hs] at S;clear hs
 have I:=Lib.hid (fun w=>itoa_c n w hn);clear hn
 go_enter Tryz.func72,Tryz.ntmps72
 go_wp2_with (first | (go_at_call 67;(fail_if_success (have:=w1));((with_reducible refine (S.out _).mono ?_);rintro e w1 ⟨rfl,hb1⟩;(try (replace hb1:=below_undrew hb1));(try (replace hb1:=below_undrewN hb1));obtain ⟨hc1,hf1⟩:=bcell hb1;(try (have hz0_1 : w.heap.size < w1.heap.size:=(by have:=hb1.size;(try simp at this);omega))))) | (go_at_call 50;(fail_if_success (have:=w1));((with_reducible refine (I.out _ (ht.below (by repeat (first | (with_reducible exact Below.refl _ _) | (with_reducible refine below_al ?_ _) | (with_reducible refine below_drewN ?_ _) | (with_reducible refine Below.drew ?_) | (with_reducible refine below_via (by assumption) ?_) | (with_reducible refine below_sc ?_ ?_ _;· (first | (simp;done) | (simp;omega) | omega)))))).mono ?_);rintro e w1 ⟨rfl,hb1⟩;(try (replace hb1:=below_undrew hb1));(try (replace hb1:=below_undrewN hb1));obtain ⟨hc1,hf1⟩:=bcell hb1;(try (have hz0_1 : w.heap.size < w1.heap.size:=(by have:=hb1.size;(try simp at this);omega))))) | (go_at_call 67;(fail_if_success (have:=w2));((with_reducible refine (S.out _).mono ?_);rintro e w2 ⟨rfl,hb2⟩;(try (replace hb2:=below_undrew hb2));(try (replace hb2:=below_undrewN hb2));obtain ⟨hc2,hf2⟩:=bcell hb2;(try (have hz0_2 : w.heap.size < w2.heap.size:=(by have:=hb2.size;(try simp at this);omega)));(try (have hz_1_2 : w1.heap.size < w2.heap.size:=(by have:=hb2.size;(try simp at this);omega))))) | (go_at_call 50;(fail_if_success (have:=w2));((with_reducible refine (I.out _ (ht.below (by repeat (first | (with_reducible exact Below.refl _ _) | (with_reducible refine below_al ?_ _) | (with_reducible refine below_drewN ?_ _) | (with_reducible refine Below.drew ?_) | (with_reducible refine below_via (by assumption) ?_) | (with_reducible refine below_sc ?_ ?_ _;· (first | (simp;done) | (simp;omega) | omega)))))).mono ?_);rintro e w2 ⟨rfl,hb2⟩;(try (replace hb2:=below_undrew hb2));(try (replace hb2:=below_undrewN hb2));obtain ⟨hc2,hf2⟩:=bcell hb2;(try (have hz0_2 : w.heap.size < w2.heap.size:=(by have:=hb2.size;(try simp at this);omega)));(try (have hz_1_2 : w1.heap.size < w2.heap.size:=(by have:=hb2.size;(try simp at this);omega))))))
 go_ret;exact ⟨rfl,(by repeat (first | (with_reducible exact Below.refl _ _) | (with_reducible refine below_al ?_ _) | (with_reducible refine below_drewN ?_ _) | (with_reducible refine Below.drew ?_) | (with_reducible refine below_via (by assumption) ?_) | (with_reducible refine below_sc ?_ ?_ _;· (first | (simp;done) | (simp;omega) | omega))))⟩
set_option maxRecDepth 100000 in
set_option maxHeartbeats 2000000 in
theorem show_float (n : Int) (f : Nat) (t : ByteArray) (w : World) (hn : I64 n) (hf : f < 18446744073709551616) (hd : TabD w) (hs : soundV 3 n f t = true) : Calls Tryz.prog 72 #[.agg #[.int .i64 3,.int .i64 n,.int .u64 f,.string t]] w fun e w'=>e = .returned (.string ⟨([48,120] ++ hexP 16 f).toArray⟩) ∧ Below w.heap.size w w':=by
 have S:=Lib.hid (fun w=>sound_c 3 n f t w hn);rw [hs] at S;clear hs hn
 have hl:=hexS_len 16 f
 have HP:=Lib.hid (hexP_S 16 f (by simpa using hf))
 have F:=Lib.hid (fun w=>sFmtUint_c f w hf);clear hf
 go_enter Tryz.func72,Tryz.ntmps72
 go_wp2_with (first | (first | (go_at_call 67;(fail_if_success (have:=w1));((with_reducible refine (S.out _).mono ?_);rintro e w1 ⟨rfl,hb1⟩;(try (replace hb1:=below_undrew hb1));(try (replace hb1:=below_undrewN hb1));obtain ⟨hc1,hf1⟩:=bcell hb1;(try (have hz0_1 : w.heap.size < w1.heap.size:=(by have:=hb1.size;(try simp at this);omega))))) | (go_at_call 98;(fail_if_success (have:=w1));((with_reducible refine (F.out _ (hd.below (by repeat (first | (with_reducible exact Below.refl _ _) | (with_reducible refine below_al ?_ _) | (with_reducible refine below_drewN ?_ _) | (with_reducible refine Below.drew ?_) | (with_reducible refine below_via (by assumption) ?_) | (with_reducible refine below_sc ?_ ?_ _;· (first | (simp;done) | (simp;omega) | omega)))))).mono ?_);rintro e w1 ⟨rfl,hb1⟩;(try (replace hb1:=below_undrew hb1));(try (replace hb1:=below_undrewN hb1));obtain ⟨hc1,hf1⟩:=bcell hb1;(try (have hz0_1 : w.heap.size < w1.heap.size:=(by have:=hb1.size;(try simp at this);omega))))) | (go_at_call 67;(fail_if_success (have:=w2));((with_reducible refine (S.out _).mono ?_);rintro e w2 ⟨rfl,hb2⟩;(try (replace hb2:=below_undrew hb2));(try (replace hb2:=below_undrewN hb2));obtain ⟨hc2,hf2⟩:=bcell hb2;(try (have hz0_2 : w.heap.size < w2.heap.size:=(by have:=hb2.size;(try simp at this);omega)));(try (have hz_1_2 : w1.heap.size < w2.heap.size:=(by have:=hb2.size;(try simp at this);omega))))) | (go_at_call 98;(fail_if_success (have:=w2));((with_reducible refine (F.out _ (hd.below (by repeat (first | (with_reducible exact Below.refl _ _) | (with_reducible refine below_al ?_ _) | (with_reducible refine below_drewN ?_ _) | (with_reducible refine Below.drew ?_) | (with_reducible refine below_via (by assumption) ?_) | (with_reducible refine below_sc ?_ ?_ _;· (first | (simp;done) | (simp;omega) | omega)))))).mono ?_);rintro e w2 ⟨rfl,hb2⟩;(try (replace hb2:=below_undrew hb2));(try (replace hb2:=below_undrewN hb2));obtain ⟨hc2,hf2⟩:=bcell hb2;(try (have hz0_2 : w.heap.size < w2.heap.size:=(by have:=hb2.size;(try simp at this);omega)));(try (have hz_1_2 : w1.heap.size < w2.heap.size:=(by have:=hb2.size;(try simp at this);omega)))))) | (go_at_call 99;((with_reducible refine (rep_c _ _ (by omega) (by omega)).mono ?_);rintro e w3 ⟨rfl,hb⟩;obtain ⟨hc,hf⟩:=bcell hb)))
 go_ret
 refine ⟨congrArg (fun x=>Ending.returned (Value.string x)) ?_,(by repeat (first | (with_reducible exact Below.refl _ _) | (with_reducible refine below_al ?_ _) | (with_reducible refine below_drewN ?_ _) | (with_reducible refine Below.drew ?_) | (with_reducible refine below_via (by assumption) ?_) | (with_reducible refine below_sc ?_ ?_ _;· (first | (simp;done) | (simp;omega) | omega))))⟩
 rw [← HP.out]
 apply ByteArray.ext
 simp
theorem show_c (k n f : Int) (t : ByteArray) (w : World) (hn : I64 n) (hf : U64 f) (ht : Tab w) (hd : TabD w) : Calls Tryz.prog 72 #[.agg #[.int .i64 k,.int .i64 n,.int .u64 f,.string t]] w fun e w'=>e = .returned (.string ⟨(showL k n f t).toArray⟩) ∧ Below w.heap.size w w':=by
 obtain ⟨h0,h1⟩:=hf
 cases hs : soundV k n f t with
 | false =>
  have : showL k n f t = []:=by simp [showL,hs]
  rw [this];exact show_no k n f t w hn hs
 | true =>
  have hk : k = 0 ∨ k = 1 ∨ k = 2 ∨ k = 3 ∨ k = 4:=by
   unfold soundV at hs
   by_cases a0 : k = 0;· simp [a0]
   by_cases a1 : k = 1;· simp [a1]
   by_cases a2 : k = 2;· simp [a2]
   by_cases a3 : k = 3;· simp [a3]
   by_cases a4 : k = 4;· simp [a4]
   simp [a0,a1,a2,a3,a4] at hs
  rcases hk with rfl | rfl | rfl | rfl | rfl
  ·have : showL 0 n f t = [78,85,76,76]:=by simp [showL,hs]
   rw [this];exact show_null n f t w hn hs
  ·have : showL 1 n f t = Lib.formatBool (n == 1):=by simp [showL,hs]
   rw [this];exact show_bool n f t w hn hs
  ·have : showL 2 n f t = Lib.itoa n:=by simp [showL,hs]
   rw [this];exact show_int n f t w hn ht hs
  ·have : showL 3 n f t = [48,120] ++ hexP 16 f.toNat:=by simp [showL,hs]
   rw [this]
   obtain ⟨m,rfl⟩:=Int.eq_ofNat_of_zero_le h0
   exact show_float n m t w hn (by omega) hd hs
  ·have : showL 4 n f t = quotedL t.data.toList:=by simp [showL,hs]
   rw [this]
   have e:=hs
   simp [soundV,eqV] at e
   obtain ⟨⟨rfl,rfl⟩,h4⟩:=e
   exact show_text_c t w h4 hs
end Go.Proofs.YthpkjkcfhipjhaaGreatDoor
end
section
namespace Go.Proofs.YthpkjkcfhipjhaaGreatDoor
set_option linter.unusedVariables false
set_option linter.unusedSimpArgs false
open Go.RowKit
theorem ci_congr {a b c d : Int} (h1 : a < b ↔ c < d) (h2 : b < a ↔ d < c) : Lib.compareInt a b = Lib.compareInt c d:=by
 unfold Lib.compareInt
 by_cases x : a < b
 ·rw [if_pos x,if_pos (h1.1 x)]
 ·rw [if_neg x,if_neg (fun y=>x (h1.2 y))]
  by_cases z : b < a
  ·rw [if_pos z,if_pos (h2.1 z)]
  ·rw [if_neg z,if_neg (fun y=>z (h2.2 y))]
theorem fkey_lt {x y : Int} (ux : 0 ≤ x ∧ x < 18446744073709551616) (uy : 0 ≤ y ∧ y < 18446744073709551616) (px : plainI x = x) (py : plainI y = y) : fkey x.toNat < fkey y.toNat ↔ rKey x < rKey y:=by
 have lx:=sr_lt x.toNat
 have ly:=sr_lt y.toNat
 have cx : ∀ x : Int,0 ≤ x → fNaN x.toNat = fNaN x:=fun x hx=>by rw [show ((x.toNat : Nat) : Int) = x by omega]
 have nanv : ∀ z : Int,fNaN z = true → plainI z = z → z = 9221120237041090560:=fun z h p=>by simp only [plainI,h,if_true] at p;exact p.symm
 have fin : ∀ z : Int,0 ≤ z → z < 18446744073709551616 → fNaN z = false → z ≤ 9218868437227405312 ∨ (9223372036854775808 ≤ z ∧ z ≤ 18442240474082181120):=fun z h0 h1 h=>by
  have:=fNaN_iff z
  rw [h] at this
  have:=this.symm
  simp only [decide_eq_false_iff_not] at this
  omega
 unfold fkey
 rw [cx x ux.1,cx y uy.1]
 cases hx : fNaN x <;> cases hy : fNaN y
 ·simp only [Bool.false_eq_true,if_false]
  have nx : x ≠ 9223372036854775808:=fun e=>by subst e;revert px;decide +kernel
  have ny : y ≠ 9223372036854775808:=fun e=>by subst e;revert py;decide +kernel
  have hx2 : x.toNat / 9223372036854775808 = 0 ∨ x.toNat / 9223372036854775808 = 1:=by omega
  have hy2 : y.toNat / 9223372036854775808 = 0 ∨ y.toNat / 9223372036854775808 = 1:=by omega
  unfold sr negW rungW rKey
  rcases hx2 with e1 | e1 <;> rcases hy2 with e2 | e2 <;> rw [e1,e2] <;> simp <;> split <;> split <;> omega
 ·have e:=nanv y hy py
  have:=fin x ux.1 ux.2 hx
  simp only [Bool.false_eq_true,if_false,if_true]
  have r : rKey y = 18444492273895866368:=by subst e;decide
  rw [r]
  have : rKey x < 18444492273895866368:=by unfold rKey;split <;> omega
  exact ⟨fun _=>this,fun _=>lx.2⟩
 ·have e:=nanv x hx px
  have:=fin y uy.1 uy.2 hy
  simp only [Bool.false_eq_true,if_false,if_true]
  have r : rKey x = 18444492273895866368:=by subst e;decide
  rw [r]
  have : ¬ 18444492273895866368 < rKey y:=by unfold rKey;split <;> omega
  exact ⟨fun h=>by omega,fun h=>absurd h this⟩
 ·rw [nanv x hx px,nanv y hy py]
  simp
theorem rCmp_eq (k n f : Int) (t : ByteArray) (k' n' f' : Int) (t' : ByteArray) (hf : U64 f) (hf' : U64 f') : rCmp k n f t k' n' f' t' = cmpV k n f t k' n' f' t':=by
 unfold rCmp cmpV
 cases h1 : soundV k n f t <;> cases h2 : soundV k' n' f' t'
 ·rfl
 ·rfl
 ·rfl
 ·simp only [Bool.not_true,Bool.or_self,Bool.false_eq_true,if_false]
  cases hk : (k != k') with
  | true=>rfl
  | false =>
   simp only [Bool.false_eq_true,if_false]
   obtain rfl : k = k':=by simpa using hk
   cases h3 : (k == 3) with
   | false=>rfl
   | true =>
    simp only [if_true]
    obtain rfl : k = 3:=by simpa using h3
    have p : plainI f = f:=by simp [soundV] at h1;exact h1.2
    have p' : plainI f' = f':=by simp [soundV] at h2;exact h2.2
    rw [cmpF_key]
    exact (ci_congr (fkey_lt hf hf' p p') (fkey_lt hf' hf p' p)).symm
theorem rCompare_v (k n f : Int) (t : ByteArray) (k' n' f' : Int) (t' : ByteArray) (w : World) (hf : U64 f) (hf' : U64 f') : Calls Tryz.prog 71 #[.agg #[.int .i64 k,.int .i64 n,.int .u64 f,.string t],.agg #[.int .i64 k',.int .i64 n',.int .u64 f',.string t']] w fun e w'=>e = .returned (.int .i64 (cmpV k n f t k' n' f' t')) ∧ Below w.heap.size w w':=by
 rw [← rCmp_eq k n f t k' n' f' t' hf hf'];exact rCompare_c k n f t k' n' f' t' w hf hf'
end Go.Proofs.YthpkjkcfhipjhaaGreatDoor
end
section
namespace Go.Proofs.YthpkjkcfhipjhaaGreatDoor
set_option linter.unusedVariables false
set_option linter.unusedSimpArgs false
open Go.RowKit
/-- a value that a machine can hold -/
def okV (x : V) : Prop:=sV x = true ∧ I64 x.n ∧ U64 x.f
/-- n bytes of a number, the highest first -/
def beB : Nat → Nat → List UInt8
 | 0,_=>[]
 | k + 1,n=>beB k (n / 256) ++ [UInt8.ofNat (n % 256)]
/-- the number of these bytes -/
def numB (l : List UInt8) : Nat:=l.foldl (fun a c=>a * 256 + c.toNat) 0
theorem beB_len : ∀ k n,(beB k n).length = k
 | 0,_=>rfl
 | k + 1,n=>by simp [beB,beB_len k]
theorem numB_snoc (l : List UInt8) (c : UInt8) : numB (l ++ [c]) = numB l * 256 + c.toNat:=by simp [numB]
theorem numB_beB : ∀ k n,n < 256 ^ k → numB (beB k n) = n
 | 0,n,h=>by simp at h;subst h;rfl
 | k + 1,n,h=>by
  have hk : n / 256 < 256 ^ k:=by rw [Nat.pow_succ] at h;omega
  rw [beB,numB_snoc,numB_beB k _ hk]
  have : (UInt8.ofNat (n % 256)).toNat = n % 256:=by simp
  rw [this];omega
/-- two lists of bytes part at a place in both; the order is c -/
def Apart (l m : List UInt8) (c : Int) : Prop:=∃ p x y l' m',l = p ++ x :: l' ∧ m = p ++ y :: m' ∧ x ≠ y ∧ c = Lib.compareInt x.toNat y.toNat
theorem Apart.app {l m : List UInt8} {c : Int} (h : Apart l m c) (s t : List UInt8) : Apart (l ++ s) (m ++ t) c:=by
 obtain ⟨p,x,y,l',m',rfl,rfl,hn,rfl⟩:=h
 exact ⟨p,x,y,l' ++ s,m' ++ t,by simp,by simp,hn,rfl⟩
theorem Apart.pre {l m : List UInt8} {c : Int} (h : Apart l m c) (q : List UInt8) : Apart (q ++ l) (q ++ m) c:=by
 obtain ⟨p,x,y,l',m',rfl,rfl,hn,rfl⟩:=h
 exact ⟨q ++ p,x,y,l',m',by simp,by simp,hn,rfl⟩
theorem cb_pre : ∀ (q l m : List UInt8),Lib.compareBytes (q ++ l) (q ++ m) = Lib.compareBytes l m
 | [],_,_=>rfl
 | c :: q,l,m=>by
  have:=cb_pre q l m
  simp only [List.cons_append,Lib.compareBytes]
  simp [this]
theorem Apart.cb {l m : List UInt8} {c : Int} (h : Apart l m c) : Lib.compareBytes l m = c:=by
 obtain ⟨p,x,y,l',m',rfl,rfl,hn,rfl⟩:=h
 rw [cb_pre]
 have h1 : x.toNat ≠ y.toNat:=fun e=>hn (UInt8.toNat_inj.1 e)
 simp only [Lib.compareBytes,Lib.compareInt]
 by_cases h : x < y
 ·have:=UInt8.lt_iff_toNat_lt.1 h
  simp [h];omega
 ·have h2 : y < x:=by rw [UInt8.lt_iff_toNat_lt] at h ⊢;omega
  have:=UInt8.lt_iff_toNat_lt.1 h2
  simp [h,h2];omega
theorem beB_apart : ∀ (k a b : Nat),a < 256 ^ k → b < 256 ^ k → a ≠ b → Apart (beB k a) (beB k b) (Lib.compareInt a b)
 | 0,a,b,ha,hb,hn=>by simp at ha hb;omega
 | k + 1,a,b,ha,hb,hn=>by
  have ha' : a / 256 < 256 ^ k:=by rw [Nat.pow_succ] at ha;omega
  have hb' : b / 256 < 256 ^ k:=by rw [Nat.pow_succ] at hb;omega
  rw [beB,beB]
  by_cases h : a / 256 = b / 256
  ·have hm : a % 256 ≠ b % 256:=by omega
   rw [h]
   have e1 : (UInt8.ofNat (a % 256)).toNat = a % 256:=by simp
   have e2 : (UInt8.ofNat (b % 256)).toNat = b % 256:=by simp
   refine ⟨beB k (b / 256),_,_,[],[],rfl,rfl,fun e=>hm ?_, ?_⟩
   ·rw [← e1,← e2,e]
   ·rw [e1,e2]
    apply ci_congr <;> omega
  ·have:=(beB_apart k (a / 256) (b / 256) ha' hb' h).app [UInt8.ofNat (a % 256)] [UInt8.ofNat (b % 256)]
   have e : Lib.compareInt (a / 256 : Nat) (b / 256 : Nat) = Lib.compareInt (a : Int) (b : Int):=by
    apply ci_congr <;> omega
   rw [e] at this
   exact this
/-- a text's bytes: behind a byte 0 stands 255 -/
def escT : List UInt8 → List UInt8
 | []=>[]
 | c :: t=>if c = 0 then 0 :: 255 :: escT t else c :: escT t
/-- the number that stands for a value of 8 bytes -/
def wordV (x : V) : Nat:=if x.k = 3 then (rKey x.f).toNat else (x.n + 9223372036854775808).toNat
/-- a value's bytes -/
def encV (x : V) : List UInt8:=UInt8.ofNat x.k.toNat :: (if x.k = 1 ∨ x.k = 2 ∨ x.k = 3 then beB 8 (wordV x) else if x.k = 4 then escT x.t.data.toList ++ [0,0] else [])
/-- a row's bytes -/
def encR (l : List V) : List UInt8:=l.flatMap encV
/-- the order of rows -/
def cmpL : List V → List V → Int
 | [],[]=>0
 | [],_ :: _=>-1
 | _ :: _,[]=>1
 | x :: a,y :: b=>if cV x y ≠ 0 then cV x y else cmpL a b
theorem esc_apart : ∀ a b : List UInt8,a ≠ b → Apart (escT a ++ [0,0]) (escT b ++ [0,0]) (Lib.compareBytes a b)
 | [],[],h=>absurd rfl h
 | [],c :: t,_=>by
  by_cases h : c = 0
  ·subst h
   exact ⟨[0],0,255,[],escT t ++ [0,0],rfl,by simp [escT],by decide,by rfl⟩
  ·refine ⟨[],0,c,[0],escT t ++ [0,0],rfl,by simp [escT,h],fun e=>h e.symm, ?_⟩
   have : c.toNat ≠ 0:=fun e=>h (UInt8.toNat_inj.1 e)
   have : (0 : UInt8).toNat = 0:=rfl
   simp only [Lib.compareBytes]
   rw [this,eq_comm,ci_lt];omega
 | c :: t,[],_=>by
  by_cases h : c = 0
  ·subst h
   exact ⟨[0],255,0,escT t ++ [0,0],[],by simp [escT],rfl,by decide,by rfl⟩
  ·refine ⟨[],c,0,escT t ++ [0,0],[0],by simp [escT,h],rfl,h, ?_⟩
   have : c.toNat ≠ 0:=fun e=>h (UInt8.toNat_inj.1 e)
   have : (0 : UInt8).toNat = 0:=rfl
   simp only [Lib.compareBytes]
   rw [this,eq_comm,ci_gt];omega
 | c :: t,d :: u,h=>by
  by_cases hcd : c = d
  ·subst hcd
   have ht : t ≠ u:=fun e=>h (by rw [e])
   have ih:=esc_apart t u ht
   have e : Lib.compareBytes (c :: t) (c :: u) = Lib.compareBytes t u:=cb_pre [c] t u
   rw [e]
   by_cases h0 : c = 0
   ·subst h0
    have:=ih.pre [0,255]
    simpa [escT] using this
   ·have:=ih.pre [c]
    simpa [escT,h0] using this
  ·have hne : c.toNat ≠ d.toNat:=fun e=>hcd (UInt8.toNat_inj.1 e)
   have e : Lib.compareBytes (c :: t) (d :: u) = Lib.compareInt c.toNat d.toNat:=Apart.cb ⟨[],c,d,t,u,rfl,rfl,hcd,rfl⟩
   rw [e]
   have E : ∀ (x : UInt8) (v : List UInt8),∃ v',escT (x :: v) ++ [0,0] = x :: v':=by
    intro x v
    by_cases hx : x = 0
    ·subst hx;exact ⟨_,by simp [escT];rfl⟩
    ·exact ⟨_,by simp [escT,hx];rfl⟩
   obtain ⟨v1,e1⟩:=E c t
   obtain ⟨v2,e2⟩:=E d u
   exact ⟨[],c,d,v1,v2,e1,e2,hcd,rfl⟩
theorem wordV_lt {x : V} (h : okV x) : wordV x < 256 ^ 8:=by
 obtain ⟨_,⟨h1,h2⟩,h3,h4⟩:=h
 have e : 256 ^ 8 = 18446744073709551616:=by decide
 rw [e]
 unfold wordV rKey
 split
 ·split <;> omega
 ·omega
theorem kind_le {x : V} (h : sV x = true) : 0 ≤ x.k ∧ x.k ≤ 4:=by
 rcases sound_cases h with h | h | h | h | h <;> (have:=h.1;omega)
theorem enc_apart (x y : V) (hx : okV x) (hy : okV y) (hn : x ≠ y) : Apart (encV x) (encV y) (cV x y):=by
 have kx:=kind_le hx.1
 have ky:=kind_le hy.1
 have hc:=cV_eq x y hx.1 hy.1
 by_cases hk : x.k = y.k
 ·rw [if_pos hk] at hc
  have hc0 : cV x y ≠ 0:=fun e=>hn ((cV_same x y ⟨hx.1,hx.2.2⟩ ⟨hy.1,hy.2.2⟩).1 e)
  unfold encV
  rw [← hk]
  have hw : x.k = 1 ∨ x.k = 2 ∨ x.k = 3 → Apart (beB 8 (wordV x)) (beB 8 (wordV y)) (cV x y):=by
   intro h123
   have hwc : cV x y = Lib.compareInt (wordV x) (wordV y):=by
    rw [hc]
    obtain ⟨sx,⟨ax,bx⟩,cx,dx⟩:=hx
    obtain ⟨sy,⟨ay,by'⟩,cy,dy⟩:=hy
    by_cases h3 : x.k = 3
    ·rw [if_pos h3,cmpF_key]
     have px : plainI x.f = x.f:=by rcases sound_cases sx with h | h | h | h | h <;> first | exact h.2.2.1 | (have:=h.1;omega)
     have py : plainI y.f = y.f:=by rcases sound_cases sy with h | h | h | h | h <;> first | exact h.2.2.1 | (have:=h.1;omega)
     have l1:=fkey_lt ⟨cx,dx⟩ ⟨cy,dy⟩ px py
     have l2:=fkey_lt ⟨cy,dy⟩ ⟨cx,dx⟩ py px
     have r1 : 0 ≤ rKey x.f:=by unfold rKey;split <;> omega
     have r2 : 0 ≤ rKey y.f:=by unfold rKey;split <;> omega
     unfold wordV
     rw [if_pos h3,if_pos (hk ▸ h3)]
     apply ci_congr
     ·rw [l1];omega
     ·rw [l2];omega
    ·have h4 : x.k ≠ 4:=by omega
     rw [if_neg h3,if_neg h4]
     unfold wordV
     rw [if_neg h3,if_neg (fun e=>h3 (hk.trans e))]
     apply ci_congr <;> omega
   rw [hwc]
   refine beB_apart 8 _ _ (wordV_lt hx) (wordV_lt hy) (fun e=>hc0 ?_)
   rw [hwc,e]
   exact (ci_eq _ _).2 rfl
  by_cases h123 : x.k = 1 ∨ x.k = 2 ∨ x.k = 3
  ·rw [if_pos h123,if_pos h123]
   exact (hw h123).pre [_]
  ·rw [if_neg h123,if_neg h123]
   by_cases h4 : x.k = 4
   ·rw [if_pos h4,if_pos h4]
    have h3 : x.k ≠ 3:=by omega
    rw [if_neg h3,if_pos h4] at hc
    have ht : x.t.data.toList ≠ y.t.data.toList:=by
     intro e
     rw [e,(cb_same _ _).2 rfl] at hc
     exact hc0 hc
    rw [hc]
    exact (esc_apart _ _ ht).pre [_]
   ·exfalso
    rcases sound_cases hx.1 with h | h | h | h | h
    ·rcases sound_cases hy.1 with h' | h' | h' | h' | h'
     ·apply hn
      obtain ⟨a1,a2,a3,a4⟩:=h
      obtain ⟨b1,b2,b3,b4⟩:=h'
      cases x;cases y;simp_all
     all_goals (have:=h.1;have:=h'.1;omega)
    all_goals (have:=h.1;omega)
 ·rw [if_neg hk] at hc
  rw [hc]
  have e1 : (UInt8.ofNat x.k.toNat).toNat = x.k.toNat:=by simp;omega
  have e2 : (UInt8.ofNat y.k.toNat).toNat = y.k.toNat:=by simp;omega
  refine ⟨[],_,_,_,_,rfl,rfl,fun e=>hk ?_, ?_⟩
  ·have:=congrArg UInt8.toNat e
   rw [e1,e2] at this;omega
  ·rw [e1,e2];apply ci_congr <;> omega
theorem encV_ne (x : V) : encV x ≠ []:=by unfold encV;simp
theorem enc_order : ∀ a b : List V,(∀ x ∈ a,okV x) → (∀ x ∈ b,okV x) → Lib.compareBytes (encR a) (encR b) = cmpL a b
 | [],[],_,_=>rfl
 | [],y :: b,_,_=>by
  show Lib.compareBytes [] (encV y ++ encR b) = -1
  cases h : encV y with
  | nil=>exact absurd h (encV_ne y)
  | cons c t=>rfl
 | x :: a,[],_,_=>by
  show Lib.compareBytes (encV x ++ encR a) [] = 1
  cases h : encV x with
  | nil=>exact absurd h (encV_ne x)
  | cons c t=>rfl
 | x :: a,y :: b,ha,hb=>by
  have hx:=ha x (by simp)
  have hy:=hb y (by simp)
  show Lib.compareBytes (encV x ++ encR a) (encV y ++ encR b) = if cV x y ≠ 0 then cV x y else cmpL a b
  by_cases h : x = y
  ·subst h
   rw [cb_pre,if_neg (by simpa using (cV_same x x ⟨hx.1,hx.2.2⟩ ⟨hx.1,hx.2.2⟩).2 rfl)]
   exact enc_order a b (fun z hz=>ha z (by simp [hz])) (fun z hz=>hb z (by simp [hz]))
  ·rw [if_pos (fun e=>h ((cV_same x y ⟨hx.1,hx.2.2⟩ ⟨hy.1,hy.2.2⟩).1 e))]
   exact ((enc_apart x y hx hy h).app _ _).cb
/-- the next text -/
def decT : List UInt8 → List UInt8 → Except Int (List UInt8 × List UInt8)
 | _,[]=>.error 3
 | acc,c :: l=>if c ≠ 0 then decT (acc ++ [c]) l else match l with
  | []=>.error 3
  | d :: l'=>if d = 0 then (if acc.length ≤ 4096 then .ok (acc,l') else .error 12) else if d = 255 then decT (acc ++ [0]) l' else .error 4
/-- a float's bits from its number -/
def backI (n : Int) : Int:=if 9223372036854775808 ≤ n then n - 9223372036854775808 else 18446744073709551615 - n
/-- the value of 8 bytes -/
def ofWord (k : Int) (n : Nat) : V:=if k = 3 then ⟨3,0,backI n,⟨#[]⟩⟩ else ⟨k,(n : Int) - 9223372036854775808,0,⟨#[]⟩⟩
/-- the next value -/
def decV : List UInt8 → Except Int (V × List UInt8)
 | []=>.error 3
 | c :: l =>
  if c.toNat = 0 then .ok (⟨0,0,0,⟨#[]⟩⟩,l)
  else if c.toNat ≤ 3 then (if l.length < 8 then .error 3 else if sV (ofWord c.toNat (numB (l.take 8))) then .ok (ofWord c.toNat (numB (l.take 8)),l.drop 8) else .error 4)
  else if c.toNat = 4 then (match decT [] l with | .ok (t,l')=>.ok (⟨4,0,0,⟨t.toArray⟩⟩,l') | .error e=>.error e)
  else .error 4
/-- the values of these bytes, behind those that are read -/
def decR : Nat → List V → List UInt8 → Except Int (List V)
 | 0,_,_=>.error 0
 | k + 1,acc,l=>if l = [] then .ok acc else if acc.length < 1024 then (match decV l with | .ok (v,l')=>decR k (acc ++ [v]) l' | .error e=>.error e) else .error 1
end Go.Proofs.YthpkjkcfhipjhaaGreatDoor
end
section
namespace Go.Proofs.YthpkjkcfhipjhaaGreatDoor
set_option linter.unusedVariables false
set_option linter.unusedSimpArgs false
open Go.RowKit
theorem decT_cons (acc : List UInt8) (c : UInt8) (l : List UInt8) (h : c ≠ 0) : decT acc (c :: l) = decT (acc ++ [c]) l:=by rw [decT.eq_def];simp only;rw [if_pos h]
theorem decT_end (acc l : List UInt8) : decT acc (0 :: 0 :: l) = if acc.length ≤ 4096 then .ok (acc,l) else .error 12:=by rw [decT];simp
theorem decT_esc0 (acc l : List UInt8) : decT acc (0 :: 255 :: l) = decT (acc ++ [0]) l:=by rw [decT];simp
theorem decT_esc : ∀ (t acc rest : List UInt8),acc.length + t.length ≤ 4096 → decT acc (escT t ++ 0 :: 0 :: rest) = .ok (acc ++ t,rest)
 | [],acc,rest,h=>by
  show decT acc (0 :: 0 :: rest) = _
  rw [decT_end,if_pos (by simpa using h),List.append_nil]
 | c :: t,acc,rest,h=>by
  have h2 : (acc ++ [c]).length + t.length ≤ 4096:=by simp at h ⊢;omega
  have ih:=decT_esc t (acc ++ [c]) rest h2
  by_cases h0 : c = 0
  ·subst h0
   have e : escT (0 :: t) = 0 :: 255 :: escT t:=by simp [escT]
   rw [e,List.cons_append,List.cons_append,decT_esc0,ih];simp
  ·have e : escT (c :: t) = c :: escT t:=by simp [escT,h0]
   rw [e,List.cons_append,decT_cons _ _ _ h0,ih];simp
theorem back_key {f : Int} (h : U64 f) : backI ((rKey f).toNat : Int) = f:=by
 obtain ⟨h0,h1⟩:=h
 unfold backI rKey
 split <;> split <;> omega
theorem kindN {x : V} (h : sV x = true) : (UInt8.ofNat x.k.toNat).toNat = x.k.toNat:=by
 have:=kind_le h
 simp;omega
theorem V_ext {x y : V} (h1 : x.k = y.k) (h2 : x.n = y.n) (h3 : x.f = y.f) (h4 : x.t = y.t) : x = y:=by cases x;cases y;simp_all
theorem word_facts {x : V} (h : sV x = true) (h123 : x.k = 1 ∨ x.k = 2 ∨ x.k = 3) : x.t = ⟨#[]⟩ ∧ (x.k = 3 → x.n = 0) ∧ (x.k ≠ 3 → x.f = 0):=by
 rcases sound_cases h with c | c | c | c | c
 ·have:=c.1;omega
 ·exact ⟨c.2.2.2,fun e=>by have:=c.1;omega,fun _=>c.2.2.1⟩
 ·exact ⟨c.2.2,fun e=>by have:=c.1;omega,fun _=>c.2.1⟩
 ·exact ⟨c.2.2.2,fun _=>c.2.1,fun e=>absurd c.1 e⟩
 ·have:=c.1;omega
theorem ofWord_eq (x : V) (h : okV x) (h123 : x.k = 1 ∨ x.k = 2 ∨ x.k = 3) : ofWord x.k (wordV x) = x:=by
 obtain ⟨hs,⟨i1,i2⟩,hU⟩:=h
 obtain ⟨ht,h3,hf⟩:=word_facts hs h123
 unfold ofWord wordV
 by_cases hk : x.k = 3
 ·rw [if_pos hk,if_pos hk,back_key hU]
  exact V_ext hk.symm (h3 hk).symm rfl ht.symm
 ·rw [if_neg hk,if_neg hk]
  refine V_ext rfl ?_ (hf hk).symm ht.symm
  simp only;omega
theorem decV_enc (x : V) (h : okV x) (rest : List UInt8) : decV (encV x ++ rest) = .ok (x,rest):=by
 have hk:=kind_le h.1
 have hkn:=kindN h.1
 have hw:=wordV_lt h
 obtain ⟨hs,hI,hU⟩:=h
 unfold encV
 rw [List.cons_append,decV,hkn]
 rcases sound_cases hs with c | c | c | c | c
 ·obtain ⟨c1,c2,c3,c4⟩:=c
  rw [if_pos (by omega),if_neg (by omega),if_neg (by omega)]
  cases x;simp_all
 all_goals rw [if_neg (by omega)]
 case inr.inr.inr.inr =>
  obtain ⟨c1,c2,c3,c4⟩:=c
  rw [if_neg (by omega),if_pos (by omega),if_neg (by omega),if_pos c1]
  have hl4 : x.t.data.toList.length ≤ 4096:=by rw [← Lib.size_eq];exact c4
  have:=decT_esc x.t.data.toList [] rest (by simp only [List.length_nil];omega)
  simp only [List.append_assoc,List.cons_append,List.nil_append] at this ⊢
  rw [this]
  cases x;simp_all
 all_goals
  have h123 : x.k = 1 ∨ x.k = 2 ∨ x.k = 3:=by omega
  have hlen : (beB 8 (wordV x)).length = 8:=beB_len _ _
  rw [if_pos (by omega),if_pos h123,if_neg (by rw [List.length_append,hlen];omega)]
  have et : (beB 8 (wordV x) ++ rest).take 8 = beB 8 (wordV x):=by rw [List.take_append_of_le_length (by omega),List.take_of_length_le (by omega)]
  have ed : (beB 8 (wordV x) ++ rest).drop 8 = rest:=by rw [List.drop_append_of_le_length (by omega),List.drop_of_length_le (by omega),List.nil_append]
  rw [et,ed,numB_beB 8 _ hw]
  have ex : ofWord (x.k.toNat : Int) (wordV x) = x:=by rw [show (x.k.toNat : Int) = x.k by omega];exact ofWord_eq x ⟨hs,hI,hU⟩ h123
  rw [ex,if_pos hs]
theorem decR_enc : ∀ (l acc : List V) (k : Nat),(∀ x ∈ l,okV x) → acc.length + l.length ≤ 1024 → l.length < k → decR k acc (encR l) = .ok (acc ++ l)
 | [],acc,k + 1,_,_,_=>by rw [decR];simp [encR]
 | x :: l,acc,k + 1,h,hl,hk=>by
  have e : encR (x :: l) = encV x ++ encR l:=rfl
  rw [e,decR,if_neg (by intro h';exact encV_ne x (List.append_eq_nil_iff.1 h').1),if_pos (by simp at hl;omega),decV_enc x (h x (by simp))]
  simp only
  rw [decR_enc l (acc ++ [x]) k (fun y hy=>h y (by simp [hy])) (by simp at hl ⊢;omega) (by simp at hk;omega)]
  simp
theorem enc_len_le (l : List V) : l.length ≤ (encR l).length:=by
 induction l with
 | nil=>simp
 | cons x l ih =>
  have e : encR (x :: l) = encV x ++ encR l:=rfl
  rw [e,List.length_append,List.length_cons]
  have : 0 < (encV x).length:=List.length_pos_iff.2 (encV_ne x)
  omega
end Go.Proofs.YthpkjkcfhipjhaaGreatDoor
end
