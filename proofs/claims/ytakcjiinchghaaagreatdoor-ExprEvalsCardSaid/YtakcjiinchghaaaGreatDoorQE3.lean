/- a part of the claim: what the card leans on, out of the texts V7, V7b, V7c, V7d, V7e, V8, VP1, VP3, VR1 (put together by wip/tools/shake.py). -/
import Derived.Test.YtakcjiinchghaaaGreatDoorQE2
import Derived.RegionTactic
import Derived.BigRegion
import Derived.Lib.ItoaLen
import Derived.BigQuiet
import Derived.Lib.VarintBits
import Derived.Lib.Zigzag
section
namespace Go.Proofs.YtakcjiinchghaaaGreatDoor
set_option linter.unusedVariables false
set_option linter.unusedSimpArgs false
open Go.RowKit
def addI : Except Int Int → Except Int V
 | .ok x=>.ok ⟨2,x,0,⟨#[]⟩⟩
 | .error c=>.error c
def textS (t : ByteArray) : Except Int V:=if t.size ≤ 4096 then .ok ⟨4,0,0,t⟩ else .error 12
def comparedB (code c : Int) : Bool :=
 if code == 16 then c == 0 else if code == 17 then c != 0 else if code == 18 then decide (c < 0) else if code == 19 then decide (c ≤ 0) else if code == 20 then decide (0 < c) else decide (0 ≤ c)
def fitsB (code k : Int) : Bool :=
 if k == 0 || (decide (16 ≤ code) && decide (code ≤ 21)) then true else if code == 15 then k == 4 else if code == 14 then k == 2 else k == 2 || k == 3
def twoS (code k n f : Int) (t : ByteArray) (k' n' f' : Int) (t' : ByteArray) : Except Int V :=
 if !(soundV k n f t && soundV k' n' f' t' && decide (10 ≤ code) && decide (code ≤ 24)) then .error 1
 else if code == 22 || code == 23 then logicS code k n f t k' n' f' t'
 else if !(k == 0 || k' == 0 || k == k') then .error 1
 else if code == 24 then (if k == 0 then .ok ⟨k',n',f',t'⟩ else .ok ⟨k,n,f,t⟩)
 else if !(fitsB code k && fitsB code k') then .error 1
 else if k == 0 || k' == 0 then .ok ⟨0,0,0,⟨#[]⟩⟩
 else if decide (16 ≤ code) then .ok ⟨1,b2i (comparedB code (cmpV k n f t k' n' f' t')),0,⟨#[]⟩⟩
 else if code == 15 then textS (t ++ t')
 else if k == 3 then .ok ⟨3,0,floatS code f.toNat f'.toNat,⟨#[]⟩⟩
 else addI (intsS code n n')
theorem compared_q (code c : Int) (w : World) : Calls Tryz.prog 103 #[.int .i64 code,.int .i64 c] w fun e w'=>e = .returned (.bool (comparedB code c)) ∧ w = w':=compared_c code c w
theorem fits_q (code k : Int) (w : World) : Calls Tryz.prog 102 #[.int .i64 code,.int .i64 k] w fun e w'=>e = .returned (.bool (fitsB code k)) ∧ w = w':=fits_c code k w
theorem floats_b (code : Int) (x y : Nat) (w : World) : Calls Tryz.prog 107 #[.int .i64 code,.float .f64 x,.float .f64 y] w fun e w'=>∃ r : Nat,e = .returned (.float .f64 r) ∧ plainI r = floatS code x y ∧ Below w.heap.size w w' :=
 (floats_c code x y w).mono fun _ _ ⟨r,_,h1,h2,h3⟩=>⟨r,h1,h2,by rw [h3];exact below_drewN (Below.refl _ _) _⟩
theorem text_c (s : ByteArray) (w : World) : Calls Tryz.prog 105 #[.string s] w (OutV (textS s) w):=by
 by_cases h : s.size ≤ 4096
 ·exact (text_ok s w h).mono fun e w' ⟨h1,h2⟩=>by rw [textS,if_pos h];exact ⟨h1,h2⟩
 ·exact (text_no s w h).mono fun e w' ⟨h1,h2⟩=>by rw [textS,if_neg h];exact ⟨h1,h2⟩
set_option maxRecDepth 100000 in
set_option maxHeartbeats 2000000 in
theorem two_bad (code k n f : Int) (t : ByteArray) (k' n' f' : Int) (t' : ByteArray) (w : World) (hn : I64 n) (hn' : I64 n') (h : (soundV k n f t && soundV k' n' f' t' && decide (10 ≤ code) && decide (code ≤ 24)) = false) :
  Calls Tryz.prog 62 #[.int .i64 code,.agg #[.int .i64 k,.int .i64 n,.int .u64 f,.string t],.agg #[.int .i64 k',.int .i64 n',.int .u64 f',.string t']] w (OutV (.error 1) w):=by
 cases s1 : soundV k n f t
 ·clear h
  go_enter Tryz.func62,Tryz.ntmps62
  go_wp2_with (first | (go_at_call_of 28 (Value.agg #[.int .i64 k,.int .i64 n,.int .u64 f,.string t]);refine (sound_c k n f t _ hn).mono ?_;rintro e w' ⟨rfl,hb⟩;obtain ⟨hc,hf⟩:=bcell hb;(try (have hz0 : w.heap.size < w'.heap.size:=(by have:=hb.size;(try simp at this);omega)));(try (have hz1 : w.heap.size + 1 < w'.heap.size:=(by have:=hb.size;(try simp at this);omega)));(try (have hz2 : w.heap.size + 2 < w'.heap.size:=(by have:=hb.size;(try simp at this);omega)));(try (have hz3 : w.heap.size + 3 < w'.heap.size:=(by have:=hb.size;(try simp at this);omega)))) | (go_at_call 28;refine (sound_c k' n' f' t' _ hn').mono ?_;rintro e w' ⟨rfl,hb⟩;obtain ⟨hc,hf⟩:=bcell hb;(try (have hz0 : w.heap.size < w'.heap.size:=(by have:=hb.size;(try simp at this);omega)));(try (have hz1 : w.heap.size + 1 < w'.heap.size:=(by have:=hb.size;(try simp at this);omega)));(try (have hz2 : w.heap.size + 2 < w'.heap.size:=(by have:=hb.size;(try simp at this);omega)));(try (have hz3 : w.heap.size + 3 < w'.heap.size:=(by have:=hb.size;(try simp at this);omega)))) | (go_at_call 97;((with_reducible refine (must_t _ _).mono ?_);rintro e w' ⟨rfl,rfl⟩)) | (go_at_call 97;((with_reducible refine (must_f _ _).mono ?_);rintro e w' ⟨rfl,rfl⟩)) | (go_at_call 97;refine (must_c _ _ _).mono ?_;rintro e w' ⟨(⟨hm,rfl⟩ | ⟨hm,rfl⟩),rfl⟩) | (go_at_call 101;refine (logic_c _ _ _ _ _ _ _ _ _ _).mono ?_;rintro e w' h;obtain ⟨⟨rk,rn,rf,rt,hr,rfl⟩ | ⟨rc,hr,rfl⟩,hb⟩:=outV_cases h <;> (clear h;(try (replace hb:=below_undrew hb));(try (replace hb:=below_undrewN hb));obtain ⟨hc,hf⟩:=bcell hb;(try (have hz0 : w.heap.size < w'.heap.size:=(by have:=hb.size;(try simp at this);omega)));(try (have hz1 : w.heap.size + 1 < w'.heap.size:=(by have:=hb.size;(try simp at this);omega)));(try (have hz2 : w.heap.size + 2 < w'.heap.size:=(by have:=hb.size;(try simp at this);omega)));(try (have hz3 : w.heap.size + 3 < w'.heap.size:=(by have:=hb.size;(try simp at this);omega))))) | (go_at_call 102;refine (fits_q _ _ _).mono ?_;rintro e w' ⟨rfl,rfl⟩) | (go_at_call 103;refine (compared_q _ _ _).mono ?_;rintro e w' ⟨rfl,rfl⟩) | (go_at_call 104;refine (compare_c _ _ _ _ _ _ _ _ _ hn hn').mono ?_;rintro e w' ⟨rfl,hb⟩;(try (replace hb:=below_undrew hb));(try (replace hb:=below_undrewN hb));obtain ⟨hc,hf⟩:=bcell hb;(try (have hz0 : w.heap.size < w'.heap.size:=(by have:=hb.size;(try simp at this);omega)));(try (have hz1 : w.heap.size + 1 < w'.heap.size:=(by have:=hb.size;(try simp at this);omega)));(try (have hz2 : w.heap.size + 2 < w'.heap.size:=(by have:=hb.size;(try simp at this);omega)));(try (have hz3 : w.heap.size + 3 < w'.heap.size:=(by have:=hb.size;(try simp at this);omega)))) | (go_at_call 98;refine (ofBool_c _ _).mono ?_;rintro e w' ⟨rfl,hb⟩;(try (replace hb:=below_undrew hb));(try (replace hb:=below_undrewN hb));obtain ⟨hc,hf⟩:=bcell hb;(try (have hz0 : w.heap.size < w'.heap.size:=(by have:=hb.size;(try simp at this);omega)));(try (have hz1 : w.heap.size + 1 < w'.heap.size:=(by have:=hb.size;(try simp at this);omega)));(try (have hz2 : w.heap.size + 2 < w'.heap.size:=(by have:=hb.size;(try simp at this);omega)));(try (have hz3 : w.heap.size + 3 < w'.heap.size:=(by have:=hb.size;(try simp at this);omega)))) | (go_at_call 105;refine (text_c _ _).mono ?_;rintro e w' h;obtain ⟨⟨rk,rn,rf,rt,hr,rfl⟩ | ⟨rc,hr,rfl⟩,hb⟩:=outV_cases h <;> (clear h;(try (replace hb:=below_undrew hb));(try (replace hb:=below_undrewN hb));obtain ⟨hc,hf⟩:=bcell hb;(try (have hz0 : w.heap.size < w'.heap.size:=(by have:=hb.size;(try simp at this);omega)));(try (have hz1 : w.heap.size + 1 < w'.heap.size:=(by have:=hb.size;(try simp at this);omega)));(try (have hz2 : w.heap.size + 2 < w'.heap.size:=(by have:=hb.size;(try simp at this);omega)));(try (have hz3 : w.heap.size + 3 < w'.heap.size:=(by have:=hb.size;(try simp at this);omega))))) | (go_at_call 109;refine (ofInt_c _ _).mono ?_;rintro e w' ⟨rfl,hb⟩;(try (replace hb:=below_undrew hb));(try (replace hb:=below_undrewN hb));obtain ⟨hc,hf⟩:=bcell hb;(try (have hz0 : w.heap.size < w'.heap.size:=(by have:=hb.size;(try simp at this);omega)));(try (have hz1 : w.heap.size + 1 < w'.heap.size:=(by have:=hb.size;(try simp at this);omega)));(try (have hz2 : w.heap.size + 2 < w'.heap.size:=(by have:=hb.size;(try simp at this);omega)));(try (have hz3 : w.heap.size + 3 < w'.heap.size:=(by have:=hb.size;(try simp at this);omega)))) | (go_at_call 110;refine (ints_c _ _ _ _ hn hn').mono ?_;rintro e w' h;rcases outI_bind h with ⟨x,hx,rfl,rfl⟩ | ⟨x,hx,rfl,rfl⟩ <;> clear h))
  (exact ⟨rfl,outV_pan (rfl) (by repeat (first | (with_reducible exact Below.refl _ _) | (with_reducible refine below_al ?_ _) | (with_reducible refine below_drewN ?_ _) | (with_reducible refine Below.drew ?_) | (with_reducible refine below_via (by assumption) ?_) | (with_reducible refine below_sc ?_ ?_ _;· (first | (simp;done) | (simp;omega) | omega))))⟩)
 ·cases s2 : soundV k' n' f' t'
  ·clear h
   go_enter Tryz.func62,Tryz.ntmps62
   go_wp2_with (first | (go_at_call_of 28 (Value.agg #[.int .i64 k,.int .i64 n,.int .u64 f,.string t]);refine (sound_c k n f t _ hn).mono ?_;rintro e w' ⟨rfl,hb⟩;obtain ⟨hc,hf⟩:=bcell hb;(try (have hz0 : w.heap.size < w'.heap.size:=(by have:=hb.size;(try simp at this);omega)));(try (have hz1 : w.heap.size + 1 < w'.heap.size:=(by have:=hb.size;(try simp at this);omega)));(try (have hz2 : w.heap.size + 2 < w'.heap.size:=(by have:=hb.size;(try simp at this);omega)));(try (have hz3 : w.heap.size + 3 < w'.heap.size:=(by have:=hb.size;(try simp at this);omega)))) | (go_at_call 28;refine (sound_c k' n' f' t' _ hn').mono ?_;rintro e w' ⟨rfl,hb⟩;obtain ⟨hc,hf⟩:=bcell hb;(try (have hz0 : w.heap.size < w'.heap.size:=(by have:=hb.size;(try simp at this);omega)));(try (have hz1 : w.heap.size + 1 < w'.heap.size:=(by have:=hb.size;(try simp at this);omega)));(try (have hz2 : w.heap.size + 2 < w'.heap.size:=(by have:=hb.size;(try simp at this);omega)));(try (have hz3 : w.heap.size + 3 < w'.heap.size:=(by have:=hb.size;(try simp at this);omega)))) | (go_at_call 97;((with_reducible refine (must_t _ _).mono ?_);rintro e w' ⟨rfl,rfl⟩)) | (go_at_call 97;((with_reducible refine (must_f _ _).mono ?_);rintro e w' ⟨rfl,rfl⟩)) | (go_at_call 97;refine (must_c _ _ _).mono ?_;rintro e w' ⟨(⟨hm,rfl⟩ | ⟨hm,rfl⟩),rfl⟩) | (go_at_call 101;refine (logic_c _ _ _ _ _ _ _ _ _ _).mono ?_;rintro e w' h;obtain ⟨⟨rk,rn,rf,rt,hr,rfl⟩ | ⟨rc,hr,rfl⟩,hb⟩:=outV_cases h <;> (clear h;(try (replace hb:=below_undrew hb));(try (replace hb:=below_undrewN hb));obtain ⟨hc,hf⟩:=bcell hb;(try (have hz0 : w.heap.size < w'.heap.size:=(by have:=hb.size;(try simp at this);omega)));(try (have hz1 : w.heap.size + 1 < w'.heap.size:=(by have:=hb.size;(try simp at this);omega)));(try (have hz2 : w.heap.size + 2 < w'.heap.size:=(by have:=hb.size;(try simp at this);omega)));(try (have hz3 : w.heap.size + 3 < w'.heap.size:=(by have:=hb.size;(try simp at this);omega))))) | (go_at_call 102;refine (fits_q _ _ _).mono ?_;rintro e w' ⟨rfl,rfl⟩) | (go_at_call 103;refine (compared_q _ _ _).mono ?_;rintro e w' ⟨rfl,rfl⟩) | (go_at_call 104;refine (compare_c _ _ _ _ _ _ _ _ _ hn hn').mono ?_;rintro e w' ⟨rfl,hb⟩;(try (replace hb:=below_undrew hb));(try (replace hb:=below_undrewN hb));obtain ⟨hc,hf⟩:=bcell hb;(try (have hz0 : w.heap.size < w'.heap.size:=(by have:=hb.size;(try simp at this);omega)));(try (have hz1 : w.heap.size + 1 < w'.heap.size:=(by have:=hb.size;(try simp at this);omega)));(try (have hz2 : w.heap.size + 2 < w'.heap.size:=(by have:=hb.size;(try simp at this);omega)));(try (have hz3 : w.heap.size + 3 < w'.heap.size:=(by have:=hb.size;(try simp at this);omega)))) | (go_at_call 98;refine (ofBool_c _ _).mono ?_;rintro e w' ⟨rfl,hb⟩;(try (replace hb:=below_undrew hb));(try (replace hb:=below_undrewN hb));obtain ⟨hc,hf⟩:=bcell hb;(try (have hz0 : w.heap.size < w'.heap.size:=(by have:=hb.size;(try simp at this);omega)));(try (have hz1 : w.heap.size + 1 < w'.heap.size:=(by have:=hb.size;(try simp at this);omega)));(try (have hz2 : w.heap.size + 2 < w'.heap.size:=(by have:=hb.size;(try simp at this);omega)));(try (have hz3 : w.heap.size + 3 < w'.heap.size:=(by have:=hb.size;(try simp at this);omega)))) | (go_at_call 105;refine (text_c _ _).mono ?_;rintro e w' h;obtain ⟨⟨rk,rn,rf,rt,hr,rfl⟩ | ⟨rc,hr,rfl⟩,hb⟩:=outV_cases h <;> (clear h;(try (replace hb:=below_undrew hb));(try (replace hb:=below_undrewN hb));obtain ⟨hc,hf⟩:=bcell hb;(try (have hz0 : w.heap.size < w'.heap.size:=(by have:=hb.size;(try simp at this);omega)));(try (have hz1 : w.heap.size + 1 < w'.heap.size:=(by have:=hb.size;(try simp at this);omega)));(try (have hz2 : w.heap.size + 2 < w'.heap.size:=(by have:=hb.size;(try simp at this);omega)));(try (have hz3 : w.heap.size + 3 < w'.heap.size:=(by have:=hb.size;(try simp at this);omega))))) | (go_at_call 109;refine (ofInt_c _ _).mono ?_;rintro e w' ⟨rfl,hb⟩;(try (replace hb:=below_undrew hb));(try (replace hb:=below_undrewN hb));obtain ⟨hc,hf⟩:=bcell hb;(try (have hz0 : w.heap.size < w'.heap.size:=(by have:=hb.size;(try simp at this);omega)));(try (have hz1 : w.heap.size + 1 < w'.heap.size:=(by have:=hb.size;(try simp at this);omega)));(try (have hz2 : w.heap.size + 2 < w'.heap.size:=(by have:=hb.size;(try simp at this);omega)));(try (have hz3 : w.heap.size + 3 < w'.heap.size:=(by have:=hb.size;(try simp at this);omega)))) | (go_at_call 110;refine (ints_c _ _ _ _ hn hn').mono ?_;rintro e w' h;rcases outI_bind h with ⟨x,hx,rfl,rfl⟩ | ⟨x,hx,rfl,rfl⟩ <;> clear h))
   (exact ⟨rfl,outV_pan (rfl) (by repeat (first | (with_reducible exact Below.refl _ _) | (with_reducible refine below_al ?_ _) | (with_reducible refine below_drewN ?_ _) | (with_reducible refine Below.drew ?_) | (with_reducible refine below_via (by assumption) ?_) | (with_reducible refine below_sc ?_ ?_ _;· (first | (simp;done) | (simp;omega) | omega))))⟩)
  ·have hd : code < 10 ∨ 10 ≤ code ∧ 24 < code:=by simp [s1,s2] at h;omega
   clear h
   rcases hd with hd | ⟨hd0,hd⟩
   ·go_enter Tryz.func62,Tryz.ntmps62
    go_wp2_with (first | (go_at_call_of 28 (Value.agg #[.int .i64 k,.int .i64 n,.int .u64 f,.string t]);refine (sound_c k n f t _ hn).mono ?_;rintro e w' ⟨rfl,hb⟩;obtain ⟨hc,hf⟩:=bcell hb;(try (have hz0 : w.heap.size < w'.heap.size:=(by have:=hb.size;(try simp at this);omega)));(try (have hz1 : w.heap.size + 1 < w'.heap.size:=(by have:=hb.size;(try simp at this);omega)));(try (have hz2 : w.heap.size + 2 < w'.heap.size:=(by have:=hb.size;(try simp at this);omega)));(try (have hz3 : w.heap.size + 3 < w'.heap.size:=(by have:=hb.size;(try simp at this);omega)))) | (go_at_call 28;refine (sound_c k' n' f' t' _ hn').mono ?_;rintro e w' ⟨rfl,hb⟩;obtain ⟨hc,hf⟩:=bcell hb;(try (have hz0 : w.heap.size < w'.heap.size:=(by have:=hb.size;(try simp at this);omega)));(try (have hz1 : w.heap.size + 1 < w'.heap.size:=(by have:=hb.size;(try simp at this);omega)));(try (have hz2 : w.heap.size + 2 < w'.heap.size:=(by have:=hb.size;(try simp at this);omega)));(try (have hz3 : w.heap.size + 3 < w'.heap.size:=(by have:=hb.size;(try simp at this);omega)))) | (go_at_call 97;((with_reducible refine (must_t _ _).mono ?_);rintro e w' ⟨rfl,rfl⟩)) | (go_at_call 97;((with_reducible refine (must_f _ _).mono ?_);rintro e w' ⟨rfl,rfl⟩)) | (go_at_call 97;refine (must_c _ _ _).mono ?_;rintro e w' ⟨(⟨hm,rfl⟩ | ⟨hm,rfl⟩),rfl⟩) | (go_at_call 101;refine (logic_c _ _ _ _ _ _ _ _ _ _).mono ?_;rintro e w' h;obtain ⟨⟨rk,rn,rf,rt,hr,rfl⟩ | ⟨rc,hr,rfl⟩,hb⟩:=outV_cases h <;> (clear h;(try (replace hb:=below_undrew hb));(try (replace hb:=below_undrewN hb));obtain ⟨hc,hf⟩:=bcell hb;(try (have hz0 : w.heap.size < w'.heap.size:=(by have:=hb.size;(try simp at this);omega)));(try (have hz1 : w.heap.size + 1 < w'.heap.size:=(by have:=hb.size;(try simp at this);omega)));(try (have hz2 : w.heap.size + 2 < w'.heap.size:=(by have:=hb.size;(try simp at this);omega)));(try (have hz3 : w.heap.size + 3 < w'.heap.size:=(by have:=hb.size;(try simp at this);omega))))) | (go_at_call 102;refine (fits_q _ _ _).mono ?_;rintro e w' ⟨rfl,rfl⟩) | (go_at_call 103;refine (compared_q _ _ _).mono ?_;rintro e w' ⟨rfl,rfl⟩) | (go_at_call 104;refine (compare_c _ _ _ _ _ _ _ _ _ hn hn').mono ?_;rintro e w' ⟨rfl,hb⟩;(try (replace hb:=below_undrew hb));(try (replace hb:=below_undrewN hb));obtain ⟨hc,hf⟩:=bcell hb;(try (have hz0 : w.heap.size < w'.heap.size:=(by have:=hb.size;(try simp at this);omega)));(try (have hz1 : w.heap.size + 1 < w'.heap.size:=(by have:=hb.size;(try simp at this);omega)));(try (have hz2 : w.heap.size + 2 < w'.heap.size:=(by have:=hb.size;(try simp at this);omega)));(try (have hz3 : w.heap.size + 3 < w'.heap.size:=(by have:=hb.size;(try simp at this);omega)))) | (go_at_call 98;refine (ofBool_c _ _).mono ?_;rintro e w' ⟨rfl,hb⟩;(try (replace hb:=below_undrew hb));(try (replace hb:=below_undrewN hb));obtain ⟨hc,hf⟩:=bcell hb;(try (have hz0 : w.heap.size < w'.heap.size:=(by have:=hb.size;(try simp at this);omega)));(try (have hz1 : w.heap.size + 1 < w'.heap.size:=(by have:=hb.size;(try simp at this);omega)));(try (have hz2 : w.heap.size + 2 < w'.heap.size:=(by have:=hb.size;(try simp at this);omega)));(try (have hz3 : w.heap.size + 3 < w'.heap.size:=(by have:=hb.size;(try simp at this);omega)))) | (go_at_call 105;refine (text_c _ _).mono ?_;rintro e w' h;obtain ⟨⟨rk,rn,rf,rt,hr,rfl⟩ | ⟨rc,hr,rfl⟩,hb⟩:=outV_cases h <;> (clear h;(try (replace hb:=below_undrew hb));(try (replace hb:=below_undrewN hb));obtain ⟨hc,hf⟩:=bcell hb;(try (have hz0 : w.heap.size < w'.heap.size:=(by have:=hb.size;(try simp at this);omega)));(try (have hz1 : w.heap.size + 1 < w'.heap.size:=(by have:=hb.size;(try simp at this);omega)));(try (have hz2 : w.heap.size + 2 < w'.heap.size:=(by have:=hb.size;(try simp at this);omega)));(try (have hz3 : w.heap.size + 3 < w'.heap.size:=(by have:=hb.size;(try simp at this);omega))))) | (go_at_call 109;refine (ofInt_c _ _).mono ?_;rintro e w' ⟨rfl,hb⟩;(try (replace hb:=below_undrew hb));(try (replace hb:=below_undrewN hb));obtain ⟨hc,hf⟩:=bcell hb;(try (have hz0 : w.heap.size < w'.heap.size:=(by have:=hb.size;(try simp at this);omega)));(try (have hz1 : w.heap.size + 1 < w'.heap.size:=(by have:=hb.size;(try simp at this);omega)));(try (have hz2 : w.heap.size + 2 < w'.heap.size:=(by have:=hb.size;(try simp at this);omega)));(try (have hz3 : w.heap.size + 3 < w'.heap.size:=(by have:=hb.size;(try simp at this);omega)))) | (go_at_call 110;refine (ints_c _ _ _ _ hn hn').mono ?_;rintro e w' h;rcases outI_bind h with ⟨x,hx,rfl,rfl⟩ | ⟨x,hx,rfl,rfl⟩ <;> clear h))
    (exact ⟨rfl,outV_pan (rfl) (by repeat (first | (with_reducible exact Below.refl _ _) | (with_reducible refine below_al ?_ _) | (with_reducible refine below_drewN ?_ _) | (with_reducible refine Below.drew ?_) | (with_reducible refine below_via (by assumption) ?_) | (with_reducible refine below_sc ?_ ?_ _;· (first | (simp;done) | (simp;omega) | omega))))⟩)
   ·have hd' : decide (code ≤ 24) = false:=by simp;omega
    go_enter Tryz.func62,Tryz.ntmps62
    go_wp2_with (first | (go_at_call_of 28 (Value.agg #[.int .i64 k,.int .i64 n,.int .u64 f,.string t]);refine (sound_c k n f t _ hn).mono ?_;rintro e w' ⟨rfl,hb⟩;obtain ⟨hc,hf⟩:=bcell hb;(try (have hz0 : w.heap.size < w'.heap.size:=(by have:=hb.size;(try simp at this);omega)));(try (have hz1 : w.heap.size + 1 < w'.heap.size:=(by have:=hb.size;(try simp at this);omega)));(try (have hz2 : w.heap.size + 2 < w'.heap.size:=(by have:=hb.size;(try simp at this);omega)));(try (have hz3 : w.heap.size + 3 < w'.heap.size:=(by have:=hb.size;(try simp at this);omega)))) | (go_at_call 28;refine (sound_c k' n' f' t' _ hn').mono ?_;rintro e w' ⟨rfl,hb⟩;obtain ⟨hc,hf⟩:=bcell hb;(try (have hz0 : w.heap.size < w'.heap.size:=(by have:=hb.size;(try simp at this);omega)));(try (have hz1 : w.heap.size + 1 < w'.heap.size:=(by have:=hb.size;(try simp at this);omega)));(try (have hz2 : w.heap.size + 2 < w'.heap.size:=(by have:=hb.size;(try simp at this);omega)));(try (have hz3 : w.heap.size + 3 < w'.heap.size:=(by have:=hb.size;(try simp at this);omega)))) | (go_at_call 97;((with_reducible refine (must_t _ _).mono ?_);rintro e w' ⟨rfl,rfl⟩)) | (go_at_call 97;((with_reducible refine (must_f _ _).mono ?_);rintro e w' ⟨rfl,rfl⟩)) | (go_at_call 97;refine (must_c _ _ _).mono ?_;rintro e w' ⟨(⟨hm,rfl⟩ | ⟨hm,rfl⟩),rfl⟩) | (go_at_call 101;refine (logic_c _ _ _ _ _ _ _ _ _ _).mono ?_;rintro e w' h;obtain ⟨⟨rk,rn,rf,rt,hr,rfl⟩ | ⟨rc,hr,rfl⟩,hb⟩:=outV_cases h <;> (clear h;(try (replace hb:=below_undrew hb));(try (replace hb:=below_undrewN hb));obtain ⟨hc,hf⟩:=bcell hb;(try (have hz0 : w.heap.size < w'.heap.size:=(by have:=hb.size;(try simp at this);omega)));(try (have hz1 : w.heap.size + 1 < w'.heap.size:=(by have:=hb.size;(try simp at this);omega)));(try (have hz2 : w.heap.size + 2 < w'.heap.size:=(by have:=hb.size;(try simp at this);omega)));(try (have hz3 : w.heap.size + 3 < w'.heap.size:=(by have:=hb.size;(try simp at this);omega))))) | (go_at_call 102;refine (fits_q _ _ _).mono ?_;rintro e w' ⟨rfl,rfl⟩) | (go_at_call 103;refine (compared_q _ _ _).mono ?_;rintro e w' ⟨rfl,rfl⟩) | (go_at_call 104;refine (compare_c _ _ _ _ _ _ _ _ _ hn hn').mono ?_;rintro e w' ⟨rfl,hb⟩;(try (replace hb:=below_undrew hb));(try (replace hb:=below_undrewN hb));obtain ⟨hc,hf⟩:=bcell hb;(try (have hz0 : w.heap.size < w'.heap.size:=(by have:=hb.size;(try simp at this);omega)));(try (have hz1 : w.heap.size + 1 < w'.heap.size:=(by have:=hb.size;(try simp at this);omega)));(try (have hz2 : w.heap.size + 2 < w'.heap.size:=(by have:=hb.size;(try simp at this);omega)));(try (have hz3 : w.heap.size + 3 < w'.heap.size:=(by have:=hb.size;(try simp at this);omega)))) | (go_at_call 98;refine (ofBool_c _ _).mono ?_;rintro e w' ⟨rfl,hb⟩;(try (replace hb:=below_undrew hb));(try (replace hb:=below_undrewN hb));obtain ⟨hc,hf⟩:=bcell hb;(try (have hz0 : w.heap.size < w'.heap.size:=(by have:=hb.size;(try simp at this);omega)));(try (have hz1 : w.heap.size + 1 < w'.heap.size:=(by have:=hb.size;(try simp at this);omega)));(try (have hz2 : w.heap.size + 2 < w'.heap.size:=(by have:=hb.size;(try simp at this);omega)));(try (have hz3 : w.heap.size + 3 < w'.heap.size:=(by have:=hb.size;(try simp at this);omega)))) | (go_at_call 105;refine (text_c _ _).mono ?_;rintro e w' h;obtain ⟨⟨rk,rn,rf,rt,hr,rfl⟩ | ⟨rc,hr,rfl⟩,hb⟩:=outV_cases h <;> (clear h;(try (replace hb:=below_undrew hb));(try (replace hb:=below_undrewN hb));obtain ⟨hc,hf⟩:=bcell hb;(try (have hz0 : w.heap.size < w'.heap.size:=(by have:=hb.size;(try simp at this);omega)));(try (have hz1 : w.heap.size + 1 < w'.heap.size:=(by have:=hb.size;(try simp at this);omega)));(try (have hz2 : w.heap.size + 2 < w'.heap.size:=(by have:=hb.size;(try simp at this);omega)));(try (have hz3 : w.heap.size + 3 < w'.heap.size:=(by have:=hb.size;(try simp at this);omega))))) | (go_at_call 109;refine (ofInt_c _ _).mono ?_;rintro e w' ⟨rfl,hb⟩;(try (replace hb:=below_undrew hb));(try (replace hb:=below_undrewN hb));obtain ⟨hc,hf⟩:=bcell hb;(try (have hz0 : w.heap.size < w'.heap.size:=(by have:=hb.size;(try simp at this);omega)));(try (have hz1 : w.heap.size + 1 < w'.heap.size:=(by have:=hb.size;(try simp at this);omega)));(try (have hz2 : w.heap.size + 2 < w'.heap.size:=(by have:=hb.size;(try simp at this);omega)));(try (have hz3 : w.heap.size + 3 < w'.heap.size:=(by have:=hb.size;(try simp at this);omega)))) | (go_at_call 110;refine (ints_c _ _ _ _ hn hn').mono ?_;rintro e w' h;rcases outI_bind h with ⟨x,hx,rfl,rfl⟩ | ⟨x,hx,rfl,rfl⟩ <;> clear h))
    (exact ⟨rfl,outV_pan (rfl) (by repeat (first | (with_reducible exact Below.refl _ _) | (with_reducible refine below_al ?_ _) | (with_reducible refine below_drewN ?_ _) | (with_reducible refine Below.drew ?_) | (with_reducible refine below_via (by assumption) ?_) | (with_reducible refine below_sc ?_ ?_ _;· (first | (simp;done) | (simp;omega) | omega))))⟩)
set_option maxRecDepth 100000 in
set_option maxHeartbeats 2000000 in
theorem two_logic (code k n f : Int) (t : ByteArray) (k' n' f' : Int) (t' : ByteArray) (w : World) (hn : I64 n) (hn' : I64 n') (s1 : soundV k n f t = true) (s2 : soundV k' n' f' t' = true) (hl : code = 22 ∨ code = 23) :
  Calls Tryz.prog 62 #[.int .i64 code,.agg #[.int .i64 k,.int .i64 n,.int .u64 f,.string t],.agg #[.int .i64 k',.int .i64 n',.int .u64 f',.string t']] w (OutV (logicS code k n f t k' n' f' t') w):=by
 rcases hl with rfl | rfl
 all_goals
  go_enter Tryz.func62,Tryz.ntmps62
  go_wp2_with (first | (go_at_call_of 28 (Value.agg #[.int .i64 k,.int .i64 n,.int .u64 f,.string t]);refine (sound_c k n f t _ hn).mono ?_;rintro e w' ⟨rfl,hb⟩;obtain ⟨hc,hf⟩:=bcell hb;(try (have hz0 : w.heap.size < w'.heap.size:=(by have:=hb.size;(try simp at this);omega)));(try (have hz1 : w.heap.size + 1 < w'.heap.size:=(by have:=hb.size;(try simp at this);omega)));(try (have hz2 : w.heap.size + 2 < w'.heap.size:=(by have:=hb.size;(try simp at this);omega)));(try (have hz3 : w.heap.size + 3 < w'.heap.size:=(by have:=hb.size;(try simp at this);omega)))) | (go_at_call 28;refine (sound_c k' n' f' t' _ hn').mono ?_;rintro e w' ⟨rfl,hb⟩;obtain ⟨hc,hf⟩:=bcell hb;(try (have hz0 : w.heap.size < w'.heap.size:=(by have:=hb.size;(try simp at this);omega)));(try (have hz1 : w.heap.size + 1 < w'.heap.size:=(by have:=hb.size;(try simp at this);omega)));(try (have hz2 : w.heap.size + 2 < w'.heap.size:=(by have:=hb.size;(try simp at this);omega)));(try (have hz3 : w.heap.size + 3 < w'.heap.size:=(by have:=hb.size;(try simp at this);omega)))) | (go_at_call 97;((with_reducible refine (must_t _ _).mono ?_);rintro e w' ⟨rfl,rfl⟩)) | (go_at_call 97;((with_reducible refine (must_f _ _).mono ?_);rintro e w' ⟨rfl,rfl⟩)) | (go_at_call 97;refine (must_c _ _ _).mono ?_;rintro e w' ⟨(⟨hm,rfl⟩ | ⟨hm,rfl⟩),rfl⟩) | (go_at_call 101;refine (logic_c _ _ _ _ _ _ _ _ _ _).mono ?_;rintro e w' h;obtain ⟨⟨rk,rn,rf,rt,hr,rfl⟩ | ⟨rc,hr,rfl⟩,hb⟩:=outV_cases h <;> (clear h;(try (replace hb:=below_undrew hb));(try (replace hb:=below_undrewN hb));obtain ⟨hc,hf⟩:=bcell hb;(try (have hz0 : w.heap.size < w'.heap.size:=(by have:=hb.size;(try simp at this);omega)));(try (have hz1 : w.heap.size + 1 < w'.heap.size:=(by have:=hb.size;(try simp at this);omega)));(try (have hz2 : w.heap.size + 2 < w'.heap.size:=(by have:=hb.size;(try simp at this);omega)));(try (have hz3 : w.heap.size + 3 < w'.heap.size:=(by have:=hb.size;(try simp at this);omega))))) | (go_at_call 102;refine (fits_q _ _ _).mono ?_;rintro e w' ⟨rfl,rfl⟩) | (go_at_call 103;refine (compared_q _ _ _).mono ?_;rintro e w' ⟨rfl,rfl⟩) | (go_at_call 104;refine (compare_c _ _ _ _ _ _ _ _ _ hn hn').mono ?_;rintro e w' ⟨rfl,hb⟩;(try (replace hb:=below_undrew hb));(try (replace hb:=below_undrewN hb));obtain ⟨hc,hf⟩:=bcell hb;(try (have hz0 : w.heap.size < w'.heap.size:=(by have:=hb.size;(try simp at this);omega)));(try (have hz1 : w.heap.size + 1 < w'.heap.size:=(by have:=hb.size;(try simp at this);omega)));(try (have hz2 : w.heap.size + 2 < w'.heap.size:=(by have:=hb.size;(try simp at this);omega)));(try (have hz3 : w.heap.size + 3 < w'.heap.size:=(by have:=hb.size;(try simp at this);omega)))) | (go_at_call 98;refine (ofBool_c _ _).mono ?_;rintro e w' ⟨rfl,hb⟩;(try (replace hb:=below_undrew hb));(try (replace hb:=below_undrewN hb));obtain ⟨hc,hf⟩:=bcell hb;(try (have hz0 : w.heap.size < w'.heap.size:=(by have:=hb.size;(try simp at this);omega)));(try (have hz1 : w.heap.size + 1 < w'.heap.size:=(by have:=hb.size;(try simp at this);omega)));(try (have hz2 : w.heap.size + 2 < w'.heap.size:=(by have:=hb.size;(try simp at this);omega)));(try (have hz3 : w.heap.size + 3 < w'.heap.size:=(by have:=hb.size;(try simp at this);omega)))) | (go_at_call 105;refine (text_c _ _).mono ?_;rintro e w' h;obtain ⟨⟨rk,rn,rf,rt,hr,rfl⟩ | ⟨rc,hr,rfl⟩,hb⟩:=outV_cases h <;> (clear h;(try (replace hb:=below_undrew hb));(try (replace hb:=below_undrewN hb));obtain ⟨hc,hf⟩:=bcell hb;(try (have hz0 : w.heap.size < w'.heap.size:=(by have:=hb.size;(try simp at this);omega)));(try (have hz1 : w.heap.size + 1 < w'.heap.size:=(by have:=hb.size;(try simp at this);omega)));(try (have hz2 : w.heap.size + 2 < w'.heap.size:=(by have:=hb.size;(try simp at this);omega)));(try (have hz3 : w.heap.size + 3 < w'.heap.size:=(by have:=hb.size;(try simp at this);omega))))) | (go_at_call 109;refine (ofInt_c _ _).mono ?_;rintro e w' ⟨rfl,hb⟩;(try (replace hb:=below_undrew hb));(try (replace hb:=below_undrewN hb));obtain ⟨hc,hf⟩:=bcell hb;(try (have hz0 : w.heap.size < w'.heap.size:=(by have:=hb.size;(try simp at this);omega)));(try (have hz1 : w.heap.size + 1 < w'.heap.size:=(by have:=hb.size;(try simp at this);omega)));(try (have hz2 : w.heap.size + 2 < w'.heap.size:=(by have:=hb.size;(try simp at this);omega)));(try (have hz3 : w.heap.size + 3 < w'.heap.size:=(by have:=hb.size;(try simp at this);omega)))) | (go_at_call 110;refine (ints_c _ _ _ _ hn hn').mono ?_;rintro e w' h;rcases outI_bind h with ⟨x,hx,rfl,rfl⟩ | ⟨x,hx,rfl,rfl⟩ <;> clear h))
  ·(exact bodyPost_ret (v:=.agg #[.int .i64 (rk),.int .i64 (rn),.int .u64 (rf),.string (rt)]) (by simp [results,Tryz.results62,go_sem, *]) rfl (outV_ret (x:=⟨rk,rn,rf,rt⟩) (by first | exact hr | rfl) (by repeat (first | (with_reducible exact Below.refl _ _) | (with_reducible refine below_al ?_ _) | (with_reducible refine below_drewN ?_ _) | (with_reducible refine Below.drew ?_) | (with_reducible refine below_via (by assumption) ?_) | (with_reducible refine below_sc ?_ ?_ _;· (first | (simp;done) | (simp;omega) | omega))))))
  ·(exact ⟨rfl,outV_pan (by first | exact hr | rfl) (by repeat (first | (with_reducible exact Below.refl _ _) | (with_reducible refine below_al ?_ _) | (with_reducible refine below_drewN ?_ _) | (with_reducible refine Below.drew ?_) | (with_reducible refine below_via (by assumption) ?_) | (with_reducible refine below_sc ?_ ?_ _;· (first | (simp;done) | (simp;omega) | omega))))⟩)
end Go.Proofs.YtakcjiinchghaaaGreatDoor
end
section
namespace Go.Proofs.YtakcjiinchghaaaGreatDoor
set_option linter.unusedVariables false
set_option linter.unusedSimpArgs false
open Go.RowKit
set_option maxRecDepth 100000 in
set_option maxHeartbeats 2000000 in
theorem two_unlike (code k n f : Int) (t : ByteArray) (k' n' f' : Int) (t' : ByteArray) (w : World) (hn : I64 n) (hn' : I64 n') (s1 : soundV k n f t = true) (s2 : soundV k' n' f' t' = true) (e1 : decide (10 ≤ code) = true) (e2 : decide (code ≤ 24) = true) (l1 : (code == 22) = false) (l2 : (code == 23) = false) (z1 : (k == 0) = false) (z2 : (k' == 0) = false) (z3 : (k == k') = false) :
  Calls Tryz.prog 62 #[.int .i64 code,.agg #[.int .i64 k,.int .i64 n,.int .u64 f,.string t],.agg #[.int .i64 k',.int .i64 n',.int .u64 f',.string t']] w (OutV (.error 1) w):=by
 go_enter Tryz.func62,Tryz.ntmps62
 go_wp2_with (first | (go_at_call_of 28 (Value.agg #[.int .i64 k,.int .i64 n,.int .u64 f,.string t]);refine (sound_c k n f t _ hn).mono ?_;rintro e w' ⟨rfl,hb⟩;obtain ⟨hc,hf⟩:=bcell hb;(try (have hz0 : w.heap.size < w'.heap.size:=(by have:=hb.size;(try simp at this);omega)));(try (have hz1 : w.heap.size + 1 < w'.heap.size:=(by have:=hb.size;(try simp at this);omega)));(try (have hz2 : w.heap.size + 2 < w'.heap.size:=(by have:=hb.size;(try simp at this);omega)));(try (have hz3 : w.heap.size + 3 < w'.heap.size:=(by have:=hb.size;(try simp at this);omega)))) | (go_at_call 28;refine (sound_c k' n' f' t' _ hn').mono ?_;rintro e w' ⟨rfl,hb⟩;obtain ⟨hc,hf⟩:=bcell hb;(try (have hz0 : w.heap.size < w'.heap.size:=(by have:=hb.size;(try simp at this);omega)));(try (have hz1 : w.heap.size + 1 < w'.heap.size:=(by have:=hb.size;(try simp at this);omega)));(try (have hz2 : w.heap.size + 2 < w'.heap.size:=(by have:=hb.size;(try simp at this);omega)));(try (have hz3 : w.heap.size + 3 < w'.heap.size:=(by have:=hb.size;(try simp at this);omega)))) | (go_at_call 97;((with_reducible refine (must_t _ _).mono ?_);rintro e w' ⟨rfl,rfl⟩)) | (go_at_call 97;((with_reducible refine (must_f _ _).mono ?_);rintro e w' ⟨rfl,rfl⟩)) | (go_at_call 97;refine (must_c _ _ _).mono ?_;rintro e w' ⟨(⟨hm,rfl⟩ | ⟨hm,rfl⟩),rfl⟩) | (go_at_call 101;refine (logic_c _ _ _ _ _ _ _ _ _ _).mono ?_;rintro e w' h;obtain ⟨⟨rk,rn,rf,rt,hr,rfl⟩ | ⟨rc,hr,rfl⟩,hb⟩:=outV_cases h <;> (clear h;(try (replace hb:=below_undrew hb));(try (replace hb:=below_undrewN hb));obtain ⟨hc,hf⟩:=bcell hb;(try (have hz0 : w.heap.size < w'.heap.size:=(by have:=hb.size;(try simp at this);omega)));(try (have hz1 : w.heap.size + 1 < w'.heap.size:=(by have:=hb.size;(try simp at this);omega)));(try (have hz2 : w.heap.size + 2 < w'.heap.size:=(by have:=hb.size;(try simp at this);omega)));(try (have hz3 : w.heap.size + 3 < w'.heap.size:=(by have:=hb.size;(try simp at this);omega))))) | (go_at_call 102;refine (fits_q _ _ _).mono ?_;rintro e w' ⟨rfl,rfl⟩) | (go_at_call 103;refine (compared_q _ _ _).mono ?_;rintro e w' ⟨rfl,rfl⟩) | (go_at_call 104;refine (compare_c _ _ _ _ _ _ _ _ _ hn hn').mono ?_;rintro e w' ⟨rfl,hb⟩;(try (replace hb:=below_undrew hb));(try (replace hb:=below_undrewN hb));obtain ⟨hc,hf⟩:=bcell hb;(try (have hz0 : w.heap.size < w'.heap.size:=(by have:=hb.size;(try simp at this);omega)));(try (have hz1 : w.heap.size + 1 < w'.heap.size:=(by have:=hb.size;(try simp at this);omega)));(try (have hz2 : w.heap.size + 2 < w'.heap.size:=(by have:=hb.size;(try simp at this);omega)));(try (have hz3 : w.heap.size + 3 < w'.heap.size:=(by have:=hb.size;(try simp at this);omega)))) | (go_at_call 98;refine (ofBool_c _ _).mono ?_;rintro e w' ⟨rfl,hb⟩;(try (replace hb:=below_undrew hb));(try (replace hb:=below_undrewN hb));obtain ⟨hc,hf⟩:=bcell hb;(try (have hz0 : w.heap.size < w'.heap.size:=(by have:=hb.size;(try simp at this);omega)));(try (have hz1 : w.heap.size + 1 < w'.heap.size:=(by have:=hb.size;(try simp at this);omega)));(try (have hz2 : w.heap.size + 2 < w'.heap.size:=(by have:=hb.size;(try simp at this);omega)));(try (have hz3 : w.heap.size + 3 < w'.heap.size:=(by have:=hb.size;(try simp at this);omega)))) | (go_at_call 105;refine (text_c _ _).mono ?_;rintro e w' h;obtain ⟨⟨rk,rn,rf,rt,hr,rfl⟩ | ⟨rc,hr,rfl⟩,hb⟩:=outV_cases h <;> (clear h;(try (replace hb:=below_undrew hb));(try (replace hb:=below_undrewN hb));obtain ⟨hc,hf⟩:=bcell hb;(try (have hz0 : w.heap.size < w'.heap.size:=(by have:=hb.size;(try simp at this);omega)));(try (have hz1 : w.heap.size + 1 < w'.heap.size:=(by have:=hb.size;(try simp at this);omega)));(try (have hz2 : w.heap.size + 2 < w'.heap.size:=(by have:=hb.size;(try simp at this);omega)));(try (have hz3 : w.heap.size + 3 < w'.heap.size:=(by have:=hb.size;(try simp at this);omega))))) | (go_at_call 109;refine (ofInt_c _ _).mono ?_;rintro e w' ⟨rfl,hb⟩;(try (replace hb:=below_undrew hb));(try (replace hb:=below_undrewN hb));obtain ⟨hc,hf⟩:=bcell hb;(try (have hz0 : w.heap.size < w'.heap.size:=(by have:=hb.size;(try simp at this);omega)));(try (have hz1 : w.heap.size + 1 < w'.heap.size:=(by have:=hb.size;(try simp at this);omega)));(try (have hz2 : w.heap.size + 2 < w'.heap.size:=(by have:=hb.size;(try simp at this);omega)));(try (have hz3 : w.heap.size + 3 < w'.heap.size:=(by have:=hb.size;(try simp at this);omega)))) | (go_at_call 110;refine (ints_c _ _ _ _ hn hn').mono ?_;rintro e w' h;rcases outI_bind h with ⟨x,hx,rfl,rfl⟩ | ⟨x,hx,rfl,rfl⟩ <;> clear h))
 (exact ⟨rfl,outV_pan (rfl) (by repeat (first | (with_reducible exact Below.refl _ _) | (with_reducible refine below_al ?_ _) | (with_reducible refine below_drewN ?_ _) | (with_reducible refine Below.drew ?_) | (with_reducible refine below_via (by assumption) ?_) | (with_reducible refine below_sc ?_ ?_ _;· (first | (simp;done) | (simp;omega) | omega))))⟩)
set_option maxRecDepth 100000 in
set_option maxHeartbeats 2000000 in
theorem two_coal (k n f : Int) (t : ByteArray) (k' n' f' : Int) (t' : ByteArray) (w : World) (hn : I64 n) (hn' : I64 n') (s1 : soundV k n f t = true) (s2 : soundV k' n' f' t' = true) (hz : k = 0 ∨ ¬ k = 0 ∧ k' = 0 ∨ ¬ k = 0 ∧ ¬ k' = 0 ∧ k = k') :
  Calls Tryz.prog 62 #[.int .i64 24,.agg #[.int .i64 k,.int .i64 n,.int .u64 f,.string t],.agg #[.int .i64 k',.int .i64 n',.int .u64 f',.string t']] w (OutV (if k == 0 then .ok ⟨k',n',f',t'⟩ else .ok ⟨k,n,f,t⟩) w):=by
 rcases hz with rfl | ⟨h0,rfl⟩ | ⟨h0,h1,rfl⟩
 ·go_enter Tryz.func62,Tryz.ntmps62
  go_wp2_with (first | (go_at_call_of 28 (Value.agg #[.int .i64 0,.int .i64 n,.int .u64 f,.string t]);refine (sound_c 0 n f t _ hn).mono ?_;rintro e w' ⟨rfl,hb⟩;obtain ⟨hc,hf⟩:=bcell hb;(try (have hz0 : w.heap.size < w'.heap.size:=(by have:=hb.size;(try simp at this);omega)));(try (have hz1 : w.heap.size + 1 < w'.heap.size:=(by have:=hb.size;(try simp at this);omega)));(try (have hz2 : w.heap.size + 2 < w'.heap.size:=(by have:=hb.size;(try simp at this);omega)));(try (have hz3 : w.heap.size + 3 < w'.heap.size:=(by have:=hb.size;(try simp at this);omega)))) | (go_at_call 28;refine (sound_c k' n' f' t' _ hn').mono ?_;rintro e w' ⟨rfl,hb⟩;obtain ⟨hc,hf⟩:=bcell hb;(try (have hz0 : w.heap.size < w'.heap.size:=(by have:=hb.size;(try simp at this);omega)));(try (have hz1 : w.heap.size + 1 < w'.heap.size:=(by have:=hb.size;(try simp at this);omega)));(try (have hz2 : w.heap.size + 2 < w'.heap.size:=(by have:=hb.size;(try simp at this);omega)));(try (have hz3 : w.heap.size + 3 < w'.heap.size:=(by have:=hb.size;(try simp at this);omega)))) | (go_at_call 97;((with_reducible refine (must_t _ _).mono ?_);rintro e w' ⟨rfl,rfl⟩)) | (go_at_call 97;((with_reducible refine (must_f _ _).mono ?_);rintro e w' ⟨rfl,rfl⟩)) | (go_at_call 97;refine (must_c _ _ _).mono ?_;rintro e w' ⟨(⟨hm,rfl⟩ | ⟨hm,rfl⟩),rfl⟩) | (go_at_call 101;refine (logic_c _ _ _ _ _ _ _ _ _ _).mono ?_;rintro e w' h;obtain ⟨⟨rk,rn,rf,rt,hr,rfl⟩ | ⟨rc,hr,rfl⟩,hb⟩:=outV_cases h <;> (clear h;(try (replace hb:=below_undrew hb));(try (replace hb:=below_undrewN hb));obtain ⟨hc,hf⟩:=bcell hb;(try (have hz0 : w.heap.size < w'.heap.size:=(by have:=hb.size;(try simp at this);omega)));(try (have hz1 : w.heap.size + 1 < w'.heap.size:=(by have:=hb.size;(try simp at this);omega)));(try (have hz2 : w.heap.size + 2 < w'.heap.size:=(by have:=hb.size;(try simp at this);omega)));(try (have hz3 : w.heap.size + 3 < w'.heap.size:=(by have:=hb.size;(try simp at this);omega))))) | (go_at_call 102;refine (fits_q _ _ _).mono ?_;rintro e w' ⟨rfl,rfl⟩) | (go_at_call 103;refine (compared_q _ _ _).mono ?_;rintro e w' ⟨rfl,rfl⟩) | (go_at_call 104;refine (compare_c _ _ _ _ _ _ _ _ _ hn hn').mono ?_;rintro e w' ⟨rfl,hb⟩;(try (replace hb:=below_undrew hb));(try (replace hb:=below_undrewN hb));obtain ⟨hc,hf⟩:=bcell hb;(try (have hz0 : w.heap.size < w'.heap.size:=(by have:=hb.size;(try simp at this);omega)));(try (have hz1 : w.heap.size + 1 < w'.heap.size:=(by have:=hb.size;(try simp at this);omega)));(try (have hz2 : w.heap.size + 2 < w'.heap.size:=(by have:=hb.size;(try simp at this);omega)));(try (have hz3 : w.heap.size + 3 < w'.heap.size:=(by have:=hb.size;(try simp at this);omega)))) | (go_at_call 98;refine (ofBool_c _ _).mono ?_;rintro e w' ⟨rfl,hb⟩;(try (replace hb:=below_undrew hb));(try (replace hb:=below_undrewN hb));obtain ⟨hc,hf⟩:=bcell hb;(try (have hz0 : w.heap.size < w'.heap.size:=(by have:=hb.size;(try simp at this);omega)));(try (have hz1 : w.heap.size + 1 < w'.heap.size:=(by have:=hb.size;(try simp at this);omega)));(try (have hz2 : w.heap.size + 2 < w'.heap.size:=(by have:=hb.size;(try simp at this);omega)));(try (have hz3 : w.heap.size + 3 < w'.heap.size:=(by have:=hb.size;(try simp at this);omega)))) | (go_at_call 105;refine (text_c _ _).mono ?_;rintro e w' h;obtain ⟨⟨rk,rn,rf,rt,hr,rfl⟩ | ⟨rc,hr,rfl⟩,hb⟩:=outV_cases h <;> (clear h;(try (replace hb:=below_undrew hb));(try (replace hb:=below_undrewN hb));obtain ⟨hc,hf⟩:=bcell hb;(try (have hz0 : w.heap.size < w'.heap.size:=(by have:=hb.size;(try simp at this);omega)));(try (have hz1 : w.heap.size + 1 < w'.heap.size:=(by have:=hb.size;(try simp at this);omega)));(try (have hz2 : w.heap.size + 2 < w'.heap.size:=(by have:=hb.size;(try simp at this);omega)));(try (have hz3 : w.heap.size + 3 < w'.heap.size:=(by have:=hb.size;(try simp at this);omega))))) | (go_at_call 109;refine (ofInt_c _ _).mono ?_;rintro e w' ⟨rfl,hb⟩;(try (replace hb:=below_undrew hb));(try (replace hb:=below_undrewN hb));obtain ⟨hc,hf⟩:=bcell hb;(try (have hz0 : w.heap.size < w'.heap.size:=(by have:=hb.size;(try simp at this);omega)));(try (have hz1 : w.heap.size + 1 < w'.heap.size:=(by have:=hb.size;(try simp at this);omega)));(try (have hz2 : w.heap.size + 2 < w'.heap.size:=(by have:=hb.size;(try simp at this);omega)));(try (have hz3 : w.heap.size + 3 < w'.heap.size:=(by have:=hb.size;(try simp at this);omega)))) | (go_at_call 110;refine (ints_c _ _ _ _ hn hn').mono ?_;rintro e w' h;rcases outI_bind h with ⟨x,hx,rfl,rfl⟩ | ⟨x,hx,rfl,rfl⟩ <;> clear h))
  (exact bodyPost_ret (v:=.agg #[.int .i64 (k'),.int .i64 (n'),.int .u64 (f'),.string (t')]) (by simp [results,Tryz.results62,go_sem, *]) rfl (outV_ret (x:=⟨k',n',f',t'⟩) (rfl) (by repeat (first | (with_reducible exact Below.refl _ _) | (with_reducible refine below_al ?_ _) | (with_reducible refine below_drewN ?_ _) | (with_reducible refine Below.drew ?_) | (with_reducible refine below_via (by assumption) ?_) | (with_reducible refine below_sc ?_ ?_ _;· (first | (simp;done) | (simp;omega) | omega))))))
 ·have h0' : (k == 0) = false:=by simp [h0]
  go_enter Tryz.func62,Tryz.ntmps62
  go_wp2_with (first | (go_at_call_of 28 (Value.agg #[.int .i64 k,.int .i64 n,.int .u64 f,.string t]);refine (sound_c k n f t _ hn).mono ?_;rintro e w' ⟨rfl,hb⟩;obtain ⟨hc,hf⟩:=bcell hb;(try (have hz0 : w.heap.size < w'.heap.size:=(by have:=hb.size;(try simp at this);omega)));(try (have hz1 : w.heap.size + 1 < w'.heap.size:=(by have:=hb.size;(try simp at this);omega)));(try (have hz2 : w.heap.size + 2 < w'.heap.size:=(by have:=hb.size;(try simp at this);omega)));(try (have hz3 : w.heap.size + 3 < w'.heap.size:=(by have:=hb.size;(try simp at this);omega)))) | (go_at_call 28;refine (sound_c 0 n' f' t' _ hn').mono ?_;rintro e w' ⟨rfl,hb⟩;obtain ⟨hc,hf⟩:=bcell hb;(try (have hz0 : w.heap.size < w'.heap.size:=(by have:=hb.size;(try simp at this);omega)));(try (have hz1 : w.heap.size + 1 < w'.heap.size:=(by have:=hb.size;(try simp at this);omega)));(try (have hz2 : w.heap.size + 2 < w'.heap.size:=(by have:=hb.size;(try simp at this);omega)));(try (have hz3 : w.heap.size + 3 < w'.heap.size:=(by have:=hb.size;(try simp at this);omega)))) | (go_at_call 97;((with_reducible refine (must_t _ _).mono ?_);rintro e w' ⟨rfl,rfl⟩)) | (go_at_call 97;((with_reducible refine (must_f _ _).mono ?_);rintro e w' ⟨rfl,rfl⟩)) | (go_at_call 97;refine (must_c _ _ _).mono ?_;rintro e w' ⟨(⟨hm,rfl⟩ | ⟨hm,rfl⟩),rfl⟩) | (go_at_call 101;refine (logic_c _ _ _ _ _ _ _ _ _ _).mono ?_;rintro e w' h;obtain ⟨⟨rk,rn,rf,rt,hr,rfl⟩ | ⟨rc,hr,rfl⟩,hb⟩:=outV_cases h <;> (clear h;(try (replace hb:=below_undrew hb));(try (replace hb:=below_undrewN hb));obtain ⟨hc,hf⟩:=bcell hb;(try (have hz0 : w.heap.size < w'.heap.size:=(by have:=hb.size;(try simp at this);omega)));(try (have hz1 : w.heap.size + 1 < w'.heap.size:=(by have:=hb.size;(try simp at this);omega)));(try (have hz2 : w.heap.size + 2 < w'.heap.size:=(by have:=hb.size;(try simp at this);omega)));(try (have hz3 : w.heap.size + 3 < w'.heap.size:=(by have:=hb.size;(try simp at this);omega))))) | (go_at_call 102;refine (fits_q _ _ _).mono ?_;rintro e w' ⟨rfl,rfl⟩) | (go_at_call 103;refine (compared_q _ _ _).mono ?_;rintro e w' ⟨rfl,rfl⟩) | (go_at_call 104;refine (compare_c _ _ _ _ _ _ _ _ _ hn hn').mono ?_;rintro e w' ⟨rfl,hb⟩;(try (replace hb:=below_undrew hb));(try (replace hb:=below_undrewN hb));obtain ⟨hc,hf⟩:=bcell hb;(try (have hz0 : w.heap.size < w'.heap.size:=(by have:=hb.size;(try simp at this);omega)));(try (have hz1 : w.heap.size + 1 < w'.heap.size:=(by have:=hb.size;(try simp at this);omega)));(try (have hz2 : w.heap.size + 2 < w'.heap.size:=(by have:=hb.size;(try simp at this);omega)));(try (have hz3 : w.heap.size + 3 < w'.heap.size:=(by have:=hb.size;(try simp at this);omega)))) | (go_at_call 98;refine (ofBool_c _ _).mono ?_;rintro e w' ⟨rfl,hb⟩;(try (replace hb:=below_undrew hb));(try (replace hb:=below_undrewN hb));obtain ⟨hc,hf⟩:=bcell hb;(try (have hz0 : w.heap.size < w'.heap.size:=(by have:=hb.size;(try simp at this);omega)));(try (have hz1 : w.heap.size + 1 < w'.heap.size:=(by have:=hb.size;(try simp at this);omega)));(try (have hz2 : w.heap.size + 2 < w'.heap.size:=(by have:=hb.size;(try simp at this);omega)));(try (have hz3 : w.heap.size + 3 < w'.heap.size:=(by have:=hb.size;(try simp at this);omega)))) | (go_at_call 105;refine (text_c _ _).mono ?_;rintro e w' h;obtain ⟨⟨rk,rn,rf,rt,hr,rfl⟩ | ⟨rc,hr,rfl⟩,hb⟩:=outV_cases h <;> (clear h;(try (replace hb:=below_undrew hb));(try (replace hb:=below_undrewN hb));obtain ⟨hc,hf⟩:=bcell hb;(try (have hz0 : w.heap.size < w'.heap.size:=(by have:=hb.size;(try simp at this);omega)));(try (have hz1 : w.heap.size + 1 < w'.heap.size:=(by have:=hb.size;(try simp at this);omega)));(try (have hz2 : w.heap.size + 2 < w'.heap.size:=(by have:=hb.size;(try simp at this);omega)));(try (have hz3 : w.heap.size + 3 < w'.heap.size:=(by have:=hb.size;(try simp at this);omega))))) | (go_at_call 109;refine (ofInt_c _ _).mono ?_;rintro e w' ⟨rfl,hb⟩;(try (replace hb:=below_undrew hb));(try (replace hb:=below_undrewN hb));obtain ⟨hc,hf⟩:=bcell hb;(try (have hz0 : w.heap.size < w'.heap.size:=(by have:=hb.size;(try simp at this);omega)));(try (have hz1 : w.heap.size + 1 < w'.heap.size:=(by have:=hb.size;(try simp at this);omega)));(try (have hz2 : w.heap.size + 2 < w'.heap.size:=(by have:=hb.size;(try simp at this);omega)));(try (have hz3 : w.heap.size + 3 < w'.heap.size:=(by have:=hb.size;(try simp at this);omega)))) | (go_at_call 110;refine (ints_c _ _ _ _ hn hn').mono ?_;rintro e w' h;rcases outI_bind h with ⟨x,hx,rfl,rfl⟩ | ⟨x,hx,rfl,rfl⟩ <;> clear h))
  (exact bodyPost_ret (v:=.agg #[.int .i64 (k),.int .i64 (n),.int .u64 (f),.string (t)]) (by simp [results,Tryz.results62,go_sem, *]) rfl (outV_ret (x:=⟨k,n,f,t⟩) (by simp [h0]) (by repeat (first | (with_reducible exact Below.refl _ _) | (with_reducible refine below_al ?_ _) | (with_reducible refine below_drewN ?_ _) | (with_reducible refine Below.drew ?_) | (with_reducible refine below_via (by assumption) ?_) | (with_reducible refine below_sc ?_ ?_ _;· (first | (simp;done) | (simp;omega) | omega))))))
 ·have h0' : (k == 0) = false:=by simp [h0]
  go_enter Tryz.func62,Tryz.ntmps62
  go_wp2_with (first | (go_at_call_of 28 (Value.agg #[.int .i64 k,.int .i64 n,.int .u64 f,.string t]);refine (sound_c k n f t _ hn).mono ?_;rintro e w' ⟨rfl,hb⟩;obtain ⟨hc,hf⟩:=bcell hb;(try (have hz0 : w.heap.size < w'.heap.size:=(by have:=hb.size;(try simp at this);omega)));(try (have hz1 : w.heap.size + 1 < w'.heap.size:=(by have:=hb.size;(try simp at this);omega)));(try (have hz2 : w.heap.size + 2 < w'.heap.size:=(by have:=hb.size;(try simp at this);omega)));(try (have hz3 : w.heap.size + 3 < w'.heap.size:=(by have:=hb.size;(try simp at this);omega)))) | (go_at_call 28;refine (sound_c k n' f' t' _ hn').mono ?_;rintro e w' ⟨rfl,hb⟩;obtain ⟨hc,hf⟩:=bcell hb;(try (have hz0 : w.heap.size < w'.heap.size:=(by have:=hb.size;(try simp at this);omega)));(try (have hz1 : w.heap.size + 1 < w'.heap.size:=(by have:=hb.size;(try simp at this);omega)));(try (have hz2 : w.heap.size + 2 < w'.heap.size:=(by have:=hb.size;(try simp at this);omega)));(try (have hz3 : w.heap.size + 3 < w'.heap.size:=(by have:=hb.size;(try simp at this);omega)))) | (go_at_call 97;((with_reducible refine (must_t _ _).mono ?_);rintro e w' ⟨rfl,rfl⟩)) | (go_at_call 97;((with_reducible refine (must_f _ _).mono ?_);rintro e w' ⟨rfl,rfl⟩)) | (go_at_call 97;refine (must_c _ _ _).mono ?_;rintro e w' ⟨(⟨hm,rfl⟩ | ⟨hm,rfl⟩),rfl⟩) | (go_at_call 101;refine (logic_c _ _ _ _ _ _ _ _ _ _).mono ?_;rintro e w' h;obtain ⟨⟨rk,rn,rf,rt,hr,rfl⟩ | ⟨rc,hr,rfl⟩,hb⟩:=outV_cases h <;> (clear h;(try (replace hb:=below_undrew hb));(try (replace hb:=below_undrewN hb));obtain ⟨hc,hf⟩:=bcell hb;(try (have hz0 : w.heap.size < w'.heap.size:=(by have:=hb.size;(try simp at this);omega)));(try (have hz1 : w.heap.size + 1 < w'.heap.size:=(by have:=hb.size;(try simp at this);omega)));(try (have hz2 : w.heap.size + 2 < w'.heap.size:=(by have:=hb.size;(try simp at this);omega)));(try (have hz3 : w.heap.size + 3 < w'.heap.size:=(by have:=hb.size;(try simp at this);omega))))) | (go_at_call 102;refine (fits_q _ _ _).mono ?_;rintro e w' ⟨rfl,rfl⟩) | (go_at_call 103;refine (compared_q _ _ _).mono ?_;rintro e w' ⟨rfl,rfl⟩) | (go_at_call 104;refine (compare_c _ _ _ _ _ _ _ _ _ hn hn').mono ?_;rintro e w' ⟨rfl,hb⟩;(try (replace hb:=below_undrew hb));(try (replace hb:=below_undrewN hb));obtain ⟨hc,hf⟩:=bcell hb;(try (have hz0 : w.heap.size < w'.heap.size:=(by have:=hb.size;(try simp at this);omega)));(try (have hz1 : w.heap.size + 1 < w'.heap.size:=(by have:=hb.size;(try simp at this);omega)));(try (have hz2 : w.heap.size + 2 < w'.heap.size:=(by have:=hb.size;(try simp at this);omega)));(try (have hz3 : w.heap.size + 3 < w'.heap.size:=(by have:=hb.size;(try simp at this);omega)))) | (go_at_call 98;refine (ofBool_c _ _).mono ?_;rintro e w' ⟨rfl,hb⟩;(try (replace hb:=below_undrew hb));(try (replace hb:=below_undrewN hb));obtain ⟨hc,hf⟩:=bcell hb;(try (have hz0 : w.heap.size < w'.heap.size:=(by have:=hb.size;(try simp at this);omega)));(try (have hz1 : w.heap.size + 1 < w'.heap.size:=(by have:=hb.size;(try simp at this);omega)));(try (have hz2 : w.heap.size + 2 < w'.heap.size:=(by have:=hb.size;(try simp at this);omega)));(try (have hz3 : w.heap.size + 3 < w'.heap.size:=(by have:=hb.size;(try simp at this);omega)))) | (go_at_call 105;refine (text_c _ _).mono ?_;rintro e w' h;obtain ⟨⟨rk,rn,rf,rt,hr,rfl⟩ | ⟨rc,hr,rfl⟩,hb⟩:=outV_cases h <;> (clear h;(try (replace hb:=below_undrew hb));(try (replace hb:=below_undrewN hb));obtain ⟨hc,hf⟩:=bcell hb;(try (have hz0 : w.heap.size < w'.heap.size:=(by have:=hb.size;(try simp at this);omega)));(try (have hz1 : w.heap.size + 1 < w'.heap.size:=(by have:=hb.size;(try simp at this);omega)));(try (have hz2 : w.heap.size + 2 < w'.heap.size:=(by have:=hb.size;(try simp at this);omega)));(try (have hz3 : w.heap.size + 3 < w'.heap.size:=(by have:=hb.size;(try simp at this);omega))))) | (go_at_call 109;refine (ofInt_c _ _).mono ?_;rintro e w' ⟨rfl,hb⟩;(try (replace hb:=below_undrew hb));(try (replace hb:=below_undrewN hb));obtain ⟨hc,hf⟩:=bcell hb;(try (have hz0 : w.heap.size < w'.heap.size:=(by have:=hb.size;(try simp at this);omega)));(try (have hz1 : w.heap.size + 1 < w'.heap.size:=(by have:=hb.size;(try simp at this);omega)));(try (have hz2 : w.heap.size + 2 < w'.heap.size:=(by have:=hb.size;(try simp at this);omega)));(try (have hz3 : w.heap.size + 3 < w'.heap.size:=(by have:=hb.size;(try simp at this);omega)))) | (go_at_call 110;refine (ints_c _ _ _ _ hn hn').mono ?_;rintro e w' h;rcases outI_bind h with ⟨x,hx,rfl,rfl⟩ | ⟨x,hx,rfl,rfl⟩ <;> clear h))
  (exact bodyPost_ret (v:=.agg #[.int .i64 (k),.int .i64 (n),.int .u64 (f),.string (t)]) (by simp [results,Tryz.results62,go_sem, *]) rfl (outV_ret (x:=⟨k,n,f,t⟩) (by simp [h0]) (by repeat (first | (with_reducible exact Below.refl _ _) | (with_reducible refine below_al ?_ _) | (with_reducible refine below_drewN ?_ _) | (with_reducible refine Below.drew ?_) | (with_reducible refine below_via (by assumption) ?_) | (with_reducible refine below_sc ?_ ?_ _;· (first | (simp;done) | (simp;omega) | omega))))))
end Go.Proofs.YtakcjiinchghaaaGreatDoor
end
section
namespace Go.Proofs.YtakcjiinchghaaaGreatDoor
set_option linter.unusedVariables false
set_option linter.unusedSimpArgs false
open Go.RowKit
set_option maxRecDepth 100000 in
set_option maxHeartbeats 2000000 in
theorem two_unfit (code k n f : Int) (t : ByteArray) (k' n' f' : Int) (t' : ByteArray) (w : World) (hn : I64 n) (hn' : I64 n') (s1 : soundV k n f t = true) (s2 : soundV k' n' f' t' = true) (e1 : decide (10 ≤ code) = true) (e2 : decide (code ≤ 24) = true) (l1 : (code == 22) = false) (l2 : (code == 23) = false) (l3 : (code == 24) = false) (hz : (k == 0 || k' == 0 || k == k') = true) (hf0 : (fitsB code k && fitsB code k') = false) :
  Calls Tryz.prog 62 #[.int .i64 code,.agg #[.int .i64 k,.int .i64 n,.int .u64 f,.string t],.agg #[.int .i64 k',.int .i64 n',.int .u64 f',.string t']] w (OutV (.error 1) w):=by
 have hz' : k = 0 ∨ ¬ k = 0 ∧ k' = 0 ∨ ¬ k = 0 ∧ ¬ k' = 0 ∧ k = k':=by simp at hz;omega
 have hff : fitsB code k = false ∨ fitsB code k = true ∧ fitsB code k' = false:=by cases h : fitsB code k <;> simp [h] at hf0 ⊢;exact hf0
 have ff0 : fitsB code 0 = true:=by simp [fitsB]
 clear hz hf0
 rcases hz' with rfl | ⟨h0,rfl⟩ | ⟨h0,h1,rfl⟩
 ·rcases hff with hff | ⟨g1,hff⟩
  ·rw [ff0] at hff;cases hff
  ·clear g1
   go_enter Tryz.func62,Tryz.ntmps62
   go_wp2_with (first | (go_at_call_of 28 (Value.agg #[.int .i64 0,.int .i64 n,.int .u64 f,.string t]);refine (sound_c 0 n f t _ hn).mono ?_;rintro e w' ⟨rfl,hb⟩;obtain ⟨hc,hf⟩:=bcell hb;(try (have hz0 : w.heap.size < w'.heap.size:=(by have:=hb.size;(try simp at this);omega)));(try (have hz1 : w.heap.size + 1 < w'.heap.size:=(by have:=hb.size;(try simp at this);omega)));(try (have hz2 : w.heap.size + 2 < w'.heap.size:=(by have:=hb.size;(try simp at this);omega)));(try (have hz3 : w.heap.size + 3 < w'.heap.size:=(by have:=hb.size;(try simp at this);omega)))) | (go_at_call 28;refine (sound_c k' n' f' t' _ hn').mono ?_;rintro e w' ⟨rfl,hb⟩;obtain ⟨hc,hf⟩:=bcell hb;(try (have hz0 : w.heap.size < w'.heap.size:=(by have:=hb.size;(try simp at this);omega)));(try (have hz1 : w.heap.size + 1 < w'.heap.size:=(by have:=hb.size;(try simp at this);omega)));(try (have hz2 : w.heap.size + 2 < w'.heap.size:=(by have:=hb.size;(try simp at this);omega)));(try (have hz3 : w.heap.size + 3 < w'.heap.size:=(by have:=hb.size;(try simp at this);omega)))) | (go_at_call 97;((with_reducible refine (must_t _ _).mono ?_);rintro e w' ⟨rfl,rfl⟩)) | (go_at_call 97;((with_reducible refine (must_f _ _).mono ?_);rintro e w' ⟨rfl,rfl⟩)) | (go_at_call 97;refine (must_c _ _ _).mono ?_;rintro e w' ⟨(⟨hm,rfl⟩ | ⟨hm,rfl⟩),rfl⟩) | (go_at_call 101;refine (logic_c _ _ _ _ _ _ _ _ _ _).mono ?_;rintro e w' h;obtain ⟨⟨rk,rn,rf,rt,hr,rfl⟩ | ⟨rc,hr,rfl⟩,hb⟩:=outV_cases h <;> (clear h;(try (replace hb:=below_undrew hb));(try (replace hb:=below_undrewN hb));obtain ⟨hc,hf⟩:=bcell hb;(try (have hz0 : w.heap.size < w'.heap.size:=(by have:=hb.size;(try simp at this);omega)));(try (have hz1 : w.heap.size + 1 < w'.heap.size:=(by have:=hb.size;(try simp at this);omega)));(try (have hz2 : w.heap.size + 2 < w'.heap.size:=(by have:=hb.size;(try simp at this);omega)));(try (have hz3 : w.heap.size + 3 < w'.heap.size:=(by have:=hb.size;(try simp at this);omega))))) | (go_at_call 102;refine (fits_q _ _ _).mono ?_;rintro e w' ⟨rfl,rfl⟩) | (go_at_call 103;refine (compared_q _ _ _).mono ?_;rintro e w' ⟨rfl,rfl⟩) | (go_at_call 104;refine (compare_c _ _ _ _ _ _ _ _ _ hn hn').mono ?_;rintro e w' ⟨rfl,hb⟩;(try (replace hb:=below_undrew hb));(try (replace hb:=below_undrewN hb));obtain ⟨hc,hf⟩:=bcell hb;(try (have hz0 : w.heap.size < w'.heap.size:=(by have:=hb.size;(try simp at this);omega)));(try (have hz1 : w.heap.size + 1 < w'.heap.size:=(by have:=hb.size;(try simp at this);omega)));(try (have hz2 : w.heap.size + 2 < w'.heap.size:=(by have:=hb.size;(try simp at this);omega)));(try (have hz3 : w.heap.size + 3 < w'.heap.size:=(by have:=hb.size;(try simp at this);omega)))) | (go_at_call 98;refine (ofBool_c _ _).mono ?_;rintro e w' ⟨rfl,hb⟩;(try (replace hb:=below_undrew hb));(try (replace hb:=below_undrewN hb));obtain ⟨hc,hf⟩:=bcell hb;(try (have hz0 : w.heap.size < w'.heap.size:=(by have:=hb.size;(try simp at this);omega)));(try (have hz1 : w.heap.size + 1 < w'.heap.size:=(by have:=hb.size;(try simp at this);omega)));(try (have hz2 : w.heap.size + 2 < w'.heap.size:=(by have:=hb.size;(try simp at this);omega)));(try (have hz3 : w.heap.size + 3 < w'.heap.size:=(by have:=hb.size;(try simp at this);omega)))) | (go_at_call 105;refine (text_c _ _).mono ?_;rintro e w' h;obtain ⟨⟨rk,rn,rf,rt,hr,rfl⟩ | ⟨rc,hr,rfl⟩,hb⟩:=outV_cases h <;> (clear h;(try (replace hb:=below_undrew hb));(try (replace hb:=below_undrewN hb));obtain ⟨hc,hf⟩:=bcell hb;(try (have hz0 : w.heap.size < w'.heap.size:=(by have:=hb.size;(try simp at this);omega)));(try (have hz1 : w.heap.size + 1 < w'.heap.size:=(by have:=hb.size;(try simp at this);omega)));(try (have hz2 : w.heap.size + 2 < w'.heap.size:=(by have:=hb.size;(try simp at this);omega)));(try (have hz3 : w.heap.size + 3 < w'.heap.size:=(by have:=hb.size;(try simp at this);omega))))) | (go_at_call 109;refine (ofInt_c _ _).mono ?_;rintro e w' ⟨rfl,hb⟩;(try (replace hb:=below_undrew hb));(try (replace hb:=below_undrewN hb));obtain ⟨hc,hf⟩:=bcell hb;(try (have hz0 : w.heap.size < w'.heap.size:=(by have:=hb.size;(try simp at this);omega)));(try (have hz1 : w.heap.size + 1 < w'.heap.size:=(by have:=hb.size;(try simp at this);omega)));(try (have hz2 : w.heap.size + 2 < w'.heap.size:=(by have:=hb.size;(try simp at this);omega)));(try (have hz3 : w.heap.size + 3 < w'.heap.size:=(by have:=hb.size;(try simp at this);omega)))) | (go_at_call 110;refine (ints_c _ _ _ _ hn hn').mono ?_;rintro e w' h;rcases outI_bind h with ⟨x,hx,rfl,rfl⟩ | ⟨x,hx,rfl,rfl⟩ <;> clear h))
   (exact ⟨rfl,outV_pan (rfl) (by repeat (first | (with_reducible exact Below.refl _ _) | (with_reducible refine below_al ?_ _) | (with_reducible refine below_drewN ?_ _) | (with_reducible refine Below.drew ?_) | (with_reducible refine below_via (by assumption) ?_) | (with_reducible refine below_sc ?_ ?_ _;· (first | (simp;done) | (simp;omega) | omega))))⟩)
 ·have h0' : (k == 0) = false:=by simp [h0]
  rcases hff with hff | ⟨g1,hff⟩
  ·go_enter Tryz.func62,Tryz.ntmps62
   go_wp2_with (first | (go_at_call_of 28 (Value.agg #[.int .i64 k,.int .i64 n,.int .u64 f,.string t]);refine (sound_c k n f t _ hn).mono ?_;rintro e w' ⟨rfl,hb⟩;obtain ⟨hc,hf⟩:=bcell hb;(try (have hz0 : w.heap.size < w'.heap.size:=(by have:=hb.size;(try simp at this);omega)));(try (have hz1 : w.heap.size + 1 < w'.heap.size:=(by have:=hb.size;(try simp at this);omega)));(try (have hz2 : w.heap.size + 2 < w'.heap.size:=(by have:=hb.size;(try simp at this);omega)));(try (have hz3 : w.heap.size + 3 < w'.heap.size:=(by have:=hb.size;(try simp at this);omega)))) | (go_at_call 28;refine (sound_c 0 n' f' t' _ hn').mono ?_;rintro e w' ⟨rfl,hb⟩;obtain ⟨hc,hf⟩:=bcell hb;(try (have hz0 : w.heap.size < w'.heap.size:=(by have:=hb.size;(try simp at this);omega)));(try (have hz1 : w.heap.size + 1 < w'.heap.size:=(by have:=hb.size;(try simp at this);omega)));(try (have hz2 : w.heap.size + 2 < w'.heap.size:=(by have:=hb.size;(try simp at this);omega)));(try (have hz3 : w.heap.size + 3 < w'.heap.size:=(by have:=hb.size;(try simp at this);omega)))) | (go_at_call 97;((with_reducible refine (must_t _ _).mono ?_);rintro e w' ⟨rfl,rfl⟩)) | (go_at_call 97;((with_reducible refine (must_f _ _).mono ?_);rintro e w' ⟨rfl,rfl⟩)) | (go_at_call 97;refine (must_c _ _ _).mono ?_;rintro e w' ⟨(⟨hm,rfl⟩ | ⟨hm,rfl⟩),rfl⟩) | (go_at_call 101;refine (logic_c _ _ _ _ _ _ _ _ _ _).mono ?_;rintro e w' h;obtain ⟨⟨rk,rn,rf,rt,hr,rfl⟩ | ⟨rc,hr,rfl⟩,hb⟩:=outV_cases h <;> (clear h;(try (replace hb:=below_undrew hb));(try (replace hb:=below_undrewN hb));obtain ⟨hc,hf⟩:=bcell hb;(try (have hz0 : w.heap.size < w'.heap.size:=(by have:=hb.size;(try simp at this);omega)));(try (have hz1 : w.heap.size + 1 < w'.heap.size:=(by have:=hb.size;(try simp at this);omega)));(try (have hz2 : w.heap.size + 2 < w'.heap.size:=(by have:=hb.size;(try simp at this);omega)));(try (have hz3 : w.heap.size + 3 < w'.heap.size:=(by have:=hb.size;(try simp at this);omega))))) | (go_at_call 102;refine (fits_q _ _ _).mono ?_;rintro e w' ⟨rfl,rfl⟩) | (go_at_call 103;refine (compared_q _ _ _).mono ?_;rintro e w' ⟨rfl,rfl⟩) | (go_at_call 104;refine (compare_c _ _ _ _ _ _ _ _ _ hn hn').mono ?_;rintro e w' ⟨rfl,hb⟩;(try (replace hb:=below_undrew hb));(try (replace hb:=below_undrewN hb));obtain ⟨hc,hf⟩:=bcell hb;(try (have hz0 : w.heap.size < w'.heap.size:=(by have:=hb.size;(try simp at this);omega)));(try (have hz1 : w.heap.size + 1 < w'.heap.size:=(by have:=hb.size;(try simp at this);omega)));(try (have hz2 : w.heap.size + 2 < w'.heap.size:=(by have:=hb.size;(try simp at this);omega)));(try (have hz3 : w.heap.size + 3 < w'.heap.size:=(by have:=hb.size;(try simp at this);omega)))) | (go_at_call 98;refine (ofBool_c _ _).mono ?_;rintro e w' ⟨rfl,hb⟩;(try (replace hb:=below_undrew hb));(try (replace hb:=below_undrewN hb));obtain ⟨hc,hf⟩:=bcell hb;(try (have hz0 : w.heap.size < w'.heap.size:=(by have:=hb.size;(try simp at this);omega)));(try (have hz1 : w.heap.size + 1 < w'.heap.size:=(by have:=hb.size;(try simp at this);omega)));(try (have hz2 : w.heap.size + 2 < w'.heap.size:=(by have:=hb.size;(try simp at this);omega)));(try (have hz3 : w.heap.size + 3 < w'.heap.size:=(by have:=hb.size;(try simp at this);omega)))) | (go_at_call 105;refine (text_c _ _).mono ?_;rintro e w' h;obtain ⟨⟨rk,rn,rf,rt,hr,rfl⟩ | ⟨rc,hr,rfl⟩,hb⟩:=outV_cases h <;> (clear h;(try (replace hb:=below_undrew hb));(try (replace hb:=below_undrewN hb));obtain ⟨hc,hf⟩:=bcell hb;(try (have hz0 : w.heap.size < w'.heap.size:=(by have:=hb.size;(try simp at this);omega)));(try (have hz1 : w.heap.size + 1 < w'.heap.size:=(by have:=hb.size;(try simp at this);omega)));(try (have hz2 : w.heap.size + 2 < w'.heap.size:=(by have:=hb.size;(try simp at this);omega)));(try (have hz3 : w.heap.size + 3 < w'.heap.size:=(by have:=hb.size;(try simp at this);omega))))) | (go_at_call 109;refine (ofInt_c _ _).mono ?_;rintro e w' ⟨rfl,hb⟩;(try (replace hb:=below_undrew hb));(try (replace hb:=below_undrewN hb));obtain ⟨hc,hf⟩:=bcell hb;(try (have hz0 : w.heap.size < w'.heap.size:=(by have:=hb.size;(try simp at this);omega)));(try (have hz1 : w.heap.size + 1 < w'.heap.size:=(by have:=hb.size;(try simp at this);omega)));(try (have hz2 : w.heap.size + 2 < w'.heap.size:=(by have:=hb.size;(try simp at this);omega)));(try (have hz3 : w.heap.size + 3 < w'.heap.size:=(by have:=hb.size;(try simp at this);omega)))) | (go_at_call 110;refine (ints_c _ _ _ _ hn hn').mono ?_;rintro e w' h;rcases outI_bind h with ⟨x,hx,rfl,rfl⟩ | ⟨x,hx,rfl,rfl⟩ <;> clear h))
   (exact ⟨rfl,outV_pan (rfl) (by repeat (first | (with_reducible exact Below.refl _ _) | (with_reducible refine below_al ?_ _) | (with_reducible refine below_drewN ?_ _) | (with_reducible refine Below.drew ?_) | (with_reducible refine below_via (by assumption) ?_) | (with_reducible refine below_sc ?_ ?_ _;· (first | (simp;done) | (simp;omega) | omega))))⟩)
  ·rw [ff0] at hff;cases hff
 ·have h0' : (k == 0) = false:=by simp [h0]
  rcases hff with hff | ⟨g1,hff⟩
  ·go_enter Tryz.func62,Tryz.ntmps62
   go_wp2_with (first | (go_at_call_of 28 (Value.agg #[.int .i64 k,.int .i64 n,.int .u64 f,.string t]);refine (sound_c k n f t _ hn).mono ?_;rintro e w' ⟨rfl,hb⟩;obtain ⟨hc,hf⟩:=bcell hb;(try (have hz0 : w.heap.size < w'.heap.size:=(by have:=hb.size;(try simp at this);omega)));(try (have hz1 : w.heap.size + 1 < w'.heap.size:=(by have:=hb.size;(try simp at this);omega)));(try (have hz2 : w.heap.size + 2 < w'.heap.size:=(by have:=hb.size;(try simp at this);omega)));(try (have hz3 : w.heap.size + 3 < w'.heap.size:=(by have:=hb.size;(try simp at this);omega)))) | (go_at_call 28;refine (sound_c k n' f' t' _ hn').mono ?_;rintro e w' ⟨rfl,hb⟩;obtain ⟨hc,hf⟩:=bcell hb;(try (have hz0 : w.heap.size < w'.heap.size:=(by have:=hb.size;(try simp at this);omega)));(try (have hz1 : w.heap.size + 1 < w'.heap.size:=(by have:=hb.size;(try simp at this);omega)));(try (have hz2 : w.heap.size + 2 < w'.heap.size:=(by have:=hb.size;(try simp at this);omega)));(try (have hz3 : w.heap.size + 3 < w'.heap.size:=(by have:=hb.size;(try simp at this);omega)))) | (go_at_call 97;((with_reducible refine (must_t _ _).mono ?_);rintro e w' ⟨rfl,rfl⟩)) | (go_at_call 97;((with_reducible refine (must_f _ _).mono ?_);rintro e w' ⟨rfl,rfl⟩)) | (go_at_call 97;refine (must_c _ _ _).mono ?_;rintro e w' ⟨(⟨hm,rfl⟩ | ⟨hm,rfl⟩),rfl⟩) | (go_at_call 101;refine (logic_c _ _ _ _ _ _ _ _ _ _).mono ?_;rintro e w' h;obtain ⟨⟨rk,rn,rf,rt,hr,rfl⟩ | ⟨rc,hr,rfl⟩,hb⟩:=outV_cases h <;> (clear h;(try (replace hb:=below_undrew hb));(try (replace hb:=below_undrewN hb));obtain ⟨hc,hf⟩:=bcell hb;(try (have hz0 : w.heap.size < w'.heap.size:=(by have:=hb.size;(try simp at this);omega)));(try (have hz1 : w.heap.size + 1 < w'.heap.size:=(by have:=hb.size;(try simp at this);omega)));(try (have hz2 : w.heap.size + 2 < w'.heap.size:=(by have:=hb.size;(try simp at this);omega)));(try (have hz3 : w.heap.size + 3 < w'.heap.size:=(by have:=hb.size;(try simp at this);omega))))) | (go_at_call 102;refine (fits_q _ _ _).mono ?_;rintro e w' ⟨rfl,rfl⟩) | (go_at_call 103;refine (compared_q _ _ _).mono ?_;rintro e w' ⟨rfl,rfl⟩) | (go_at_call 104;refine (compare_c _ _ _ _ _ _ _ _ _ hn hn').mono ?_;rintro e w' ⟨rfl,hb⟩;(try (replace hb:=below_undrew hb));(try (replace hb:=below_undrewN hb));obtain ⟨hc,hf⟩:=bcell hb;(try (have hz0 : w.heap.size < w'.heap.size:=(by have:=hb.size;(try simp at this);omega)));(try (have hz1 : w.heap.size + 1 < w'.heap.size:=(by have:=hb.size;(try simp at this);omega)));(try (have hz2 : w.heap.size + 2 < w'.heap.size:=(by have:=hb.size;(try simp at this);omega)));(try (have hz3 : w.heap.size + 3 < w'.heap.size:=(by have:=hb.size;(try simp at this);omega)))) | (go_at_call 98;refine (ofBool_c _ _).mono ?_;rintro e w' ⟨rfl,hb⟩;(try (replace hb:=below_undrew hb));(try (replace hb:=below_undrewN hb));obtain ⟨hc,hf⟩:=bcell hb;(try (have hz0 : w.heap.size < w'.heap.size:=(by have:=hb.size;(try simp at this);omega)));(try (have hz1 : w.heap.size + 1 < w'.heap.size:=(by have:=hb.size;(try simp at this);omega)));(try (have hz2 : w.heap.size + 2 < w'.heap.size:=(by have:=hb.size;(try simp at this);omega)));(try (have hz3 : w.heap.size + 3 < w'.heap.size:=(by have:=hb.size;(try simp at this);omega)))) | (go_at_call 105;refine (text_c _ _).mono ?_;rintro e w' h;obtain ⟨⟨rk,rn,rf,rt,hr,rfl⟩ | ⟨rc,hr,rfl⟩,hb⟩:=outV_cases h <;> (clear h;(try (replace hb:=below_undrew hb));(try (replace hb:=below_undrewN hb));obtain ⟨hc,hf⟩:=bcell hb;(try (have hz0 : w.heap.size < w'.heap.size:=(by have:=hb.size;(try simp at this);omega)));(try (have hz1 : w.heap.size + 1 < w'.heap.size:=(by have:=hb.size;(try simp at this);omega)));(try (have hz2 : w.heap.size + 2 < w'.heap.size:=(by have:=hb.size;(try simp at this);omega)));(try (have hz3 : w.heap.size + 3 < w'.heap.size:=(by have:=hb.size;(try simp at this);omega))))) | (go_at_call 109;refine (ofInt_c _ _).mono ?_;rintro e w' ⟨rfl,hb⟩;(try (replace hb:=below_undrew hb));(try (replace hb:=below_undrewN hb));obtain ⟨hc,hf⟩:=bcell hb;(try (have hz0 : w.heap.size < w'.heap.size:=(by have:=hb.size;(try simp at this);omega)));(try (have hz1 : w.heap.size + 1 < w'.heap.size:=(by have:=hb.size;(try simp at this);omega)));(try (have hz2 : w.heap.size + 2 < w'.heap.size:=(by have:=hb.size;(try simp at this);omega)));(try (have hz3 : w.heap.size + 3 < w'.heap.size:=(by have:=hb.size;(try simp at this);omega)))) | (go_at_call 110;refine (ints_c _ _ _ _ hn hn').mono ?_;rintro e w' h;rcases outI_bind h with ⟨x,hx,rfl,rfl⟩ | ⟨x,hx,rfl,rfl⟩ <;> clear h))
   (exact ⟨rfl,outV_pan (rfl) (by repeat (first | (with_reducible exact Below.refl _ _) | (with_reducible refine below_al ?_ _) | (with_reducible refine below_drewN ?_ _) | (with_reducible refine Below.drew ?_) | (with_reducible refine below_via (by assumption) ?_) | (with_reducible refine below_sc ?_ ?_ _;· (first | (simp;done) | (simp;omega) | omega))))⟩)
  ·rw [g1] at hff;cases hff
set_option maxRecDepth 100000 in
set_option maxHeartbeats 2000000 in
theorem two_null (code k n f : Int) (t : ByteArray) (k' n' f' : Int) (t' : ByteArray) (w : World) (hn : I64 n) (hn' : I64 n') (s1 : soundV k n f t = true) (s2 : soundV k' n' f' t' = true) (e1 : decide (10 ≤ code) = true) (e2 : decide (code ≤ 24) = true) (l1 : (code == 22) = false) (l2 : (code == 23) = false) (l3 : (code == 24) = false) (hz : (k == 0 || k' == 0) = true) (g1 : fitsB code k = true) (g2 : fitsB code k' = true) :
  Calls Tryz.prog 62 #[.int .i64 code,.agg #[.int .i64 k,.int .i64 n,.int .u64 f,.string t],.agg #[.int .i64 k',.int .i64 n',.int .u64 f',.string t']] w (OutV (.ok ⟨0,0,0,⟨#[]⟩⟩) w):=by
 have hz' : k = 0 ∨ ¬ k = 0 ∧ k' = 0:=by simp at hz;omega
 clear hz
 rcases hz' with rfl | ⟨h0,rfl⟩
 ·go_enter Tryz.func62,Tryz.ntmps62
  go_wp2_with (first | (go_at_call_of 28 (Value.agg #[.int .i64 0,.int .i64 n,.int .u64 f,.string t]);refine (sound_c 0 n f t _ hn).mono ?_;rintro e w' ⟨rfl,hb⟩;obtain ⟨hc,hf⟩:=bcell hb;(try (have hz0 : w.heap.size < w'.heap.size:=(by have:=hb.size;(try simp at this);omega)));(try (have hz1 : w.heap.size + 1 < w'.heap.size:=(by have:=hb.size;(try simp at this);omega)));(try (have hz2 : w.heap.size + 2 < w'.heap.size:=(by have:=hb.size;(try simp at this);omega)));(try (have hz3 : w.heap.size + 3 < w'.heap.size:=(by have:=hb.size;(try simp at this);omega)))) | (go_at_call 28;refine (sound_c k' n' f' t' _ hn').mono ?_;rintro e w' ⟨rfl,hb⟩;obtain ⟨hc,hf⟩:=bcell hb;(try (have hz0 : w.heap.size < w'.heap.size:=(by have:=hb.size;(try simp at this);omega)));(try (have hz1 : w.heap.size + 1 < w'.heap.size:=(by have:=hb.size;(try simp at this);omega)));(try (have hz2 : w.heap.size + 2 < w'.heap.size:=(by have:=hb.size;(try simp at this);omega)));(try (have hz3 : w.heap.size + 3 < w'.heap.size:=(by have:=hb.size;(try simp at this);omega)))) | (go_at_call 97;((with_reducible refine (must_t _ _).mono ?_);rintro e w' ⟨rfl,rfl⟩)) | (go_at_call 97;((with_reducible refine (must_f _ _).mono ?_);rintro e w' ⟨rfl,rfl⟩)) | (go_at_call 97;refine (must_c _ _ _).mono ?_;rintro e w' ⟨(⟨hm,rfl⟩ | ⟨hm,rfl⟩),rfl⟩) | (go_at_call 101;refine (logic_c _ _ _ _ _ _ _ _ _ _).mono ?_;rintro e w' h;obtain ⟨⟨rk,rn,rf,rt,hr,rfl⟩ | ⟨rc,hr,rfl⟩,hb⟩:=outV_cases h <;> (clear h;(try (replace hb:=below_undrew hb));(try (replace hb:=below_undrewN hb));obtain ⟨hc,hf⟩:=bcell hb;(try (have hz0 : w.heap.size < w'.heap.size:=(by have:=hb.size;(try simp at this);omega)));(try (have hz1 : w.heap.size + 1 < w'.heap.size:=(by have:=hb.size;(try simp at this);omega)));(try (have hz2 : w.heap.size + 2 < w'.heap.size:=(by have:=hb.size;(try simp at this);omega)));(try (have hz3 : w.heap.size + 3 < w'.heap.size:=(by have:=hb.size;(try simp at this);omega))))) | (go_at_call 102;refine (fits_q _ _ _).mono ?_;rintro e w' ⟨rfl,rfl⟩) | (go_at_call 103;refine (compared_q _ _ _).mono ?_;rintro e w' ⟨rfl,rfl⟩) | (go_at_call 104;refine (compare_c _ _ _ _ _ _ _ _ _ hn hn').mono ?_;rintro e w' ⟨rfl,hb⟩;(try (replace hb:=below_undrew hb));(try (replace hb:=below_undrewN hb));obtain ⟨hc,hf⟩:=bcell hb;(try (have hz0 : w.heap.size < w'.heap.size:=(by have:=hb.size;(try simp at this);omega)));(try (have hz1 : w.heap.size + 1 < w'.heap.size:=(by have:=hb.size;(try simp at this);omega)));(try (have hz2 : w.heap.size + 2 < w'.heap.size:=(by have:=hb.size;(try simp at this);omega)));(try (have hz3 : w.heap.size + 3 < w'.heap.size:=(by have:=hb.size;(try simp at this);omega)))) | (go_at_call 98;refine (ofBool_c _ _).mono ?_;rintro e w' ⟨rfl,hb⟩;(try (replace hb:=below_undrew hb));(try (replace hb:=below_undrewN hb));obtain ⟨hc,hf⟩:=bcell hb;(try (have hz0 : w.heap.size < w'.heap.size:=(by have:=hb.size;(try simp at this);omega)));(try (have hz1 : w.heap.size + 1 < w'.heap.size:=(by have:=hb.size;(try simp at this);omega)));(try (have hz2 : w.heap.size + 2 < w'.heap.size:=(by have:=hb.size;(try simp at this);omega)));(try (have hz3 : w.heap.size + 3 < w'.heap.size:=(by have:=hb.size;(try simp at this);omega)))) | (go_at_call 105;refine (text_c _ _).mono ?_;rintro e w' h;obtain ⟨⟨rk,rn,rf,rt,hr,rfl⟩ | ⟨rc,hr,rfl⟩,hb⟩:=outV_cases h <;> (clear h;(try (replace hb:=below_undrew hb));(try (replace hb:=below_undrewN hb));obtain ⟨hc,hf⟩:=bcell hb;(try (have hz0 : w.heap.size < w'.heap.size:=(by have:=hb.size;(try simp at this);omega)));(try (have hz1 : w.heap.size + 1 < w'.heap.size:=(by have:=hb.size;(try simp at this);omega)));(try (have hz2 : w.heap.size + 2 < w'.heap.size:=(by have:=hb.size;(try simp at this);omega)));(try (have hz3 : w.heap.size + 3 < w'.heap.size:=(by have:=hb.size;(try simp at this);omega))))) | (go_at_call 109;refine (ofInt_c _ _).mono ?_;rintro e w' ⟨rfl,hb⟩;(try (replace hb:=below_undrew hb));(try (replace hb:=below_undrewN hb));obtain ⟨hc,hf⟩:=bcell hb;(try (have hz0 : w.heap.size < w'.heap.size:=(by have:=hb.size;(try simp at this);omega)));(try (have hz1 : w.heap.size + 1 < w'.heap.size:=(by have:=hb.size;(try simp at this);omega)));(try (have hz2 : w.heap.size + 2 < w'.heap.size:=(by have:=hb.size;(try simp at this);omega)));(try (have hz3 : w.heap.size + 3 < w'.heap.size:=(by have:=hb.size;(try simp at this);omega)))) | (go_at_call 110;refine (ints_c _ _ _ _ hn hn').mono ?_;rintro e w' h;rcases outI_bind h with ⟨x,hx,rfl,rfl⟩ | ⟨x,hx,rfl,rfl⟩ <;> clear h))
  (exact bodyPost_ret (v:=.agg #[.int .i64 (0),.int .i64 (0),.int .u64 (0),.string (⟨#[]⟩)]) (by simp [results,Tryz.results62,go_sem, *]) rfl (outV_ret (x:=⟨0,0,0,⟨#[]⟩⟩) (rfl) (by repeat (first | (with_reducible exact Below.refl _ _) | (with_reducible refine below_al ?_ _) | (with_reducible refine below_drewN ?_ _) | (with_reducible refine Below.drew ?_) | (with_reducible refine below_via (by assumption) ?_) | (with_reducible refine below_sc ?_ ?_ _;· (first | (simp;done) | (simp;omega) | omega))))))
 ·have h0' : (k == 0) = false:=by simp [h0]
  go_enter Tryz.func62,Tryz.ntmps62
  go_wp2_with (first | (go_at_call_of 28 (Value.agg #[.int .i64 k,.int .i64 n,.int .u64 f,.string t]);refine (sound_c k n f t _ hn).mono ?_;rintro e w' ⟨rfl,hb⟩;obtain ⟨hc,hf⟩:=bcell hb;(try (have hz0 : w.heap.size < w'.heap.size:=(by have:=hb.size;(try simp at this);omega)));(try (have hz1 : w.heap.size + 1 < w'.heap.size:=(by have:=hb.size;(try simp at this);omega)));(try (have hz2 : w.heap.size + 2 < w'.heap.size:=(by have:=hb.size;(try simp at this);omega)));(try (have hz3 : w.heap.size + 3 < w'.heap.size:=(by have:=hb.size;(try simp at this);omega)))) | (go_at_call 28;refine (sound_c 0 n' f' t' _ hn').mono ?_;rintro e w' ⟨rfl,hb⟩;obtain ⟨hc,hf⟩:=bcell hb;(try (have hz0 : w.heap.size < w'.heap.size:=(by have:=hb.size;(try simp at this);omega)));(try (have hz1 : w.heap.size + 1 < w'.heap.size:=(by have:=hb.size;(try simp at this);omega)));(try (have hz2 : w.heap.size + 2 < w'.heap.size:=(by have:=hb.size;(try simp at this);omega)));(try (have hz3 : w.heap.size + 3 < w'.heap.size:=(by have:=hb.size;(try simp at this);omega)))) | (go_at_call 97;((with_reducible refine (must_t _ _).mono ?_);rintro e w' ⟨rfl,rfl⟩)) | (go_at_call 97;((with_reducible refine (must_f _ _).mono ?_);rintro e w' ⟨rfl,rfl⟩)) | (go_at_call 97;refine (must_c _ _ _).mono ?_;rintro e w' ⟨(⟨hm,rfl⟩ | ⟨hm,rfl⟩),rfl⟩) | (go_at_call 101;refine (logic_c _ _ _ _ _ _ _ _ _ _).mono ?_;rintro e w' h;obtain ⟨⟨rk,rn,rf,rt,hr,rfl⟩ | ⟨rc,hr,rfl⟩,hb⟩:=outV_cases h <;> (clear h;(try (replace hb:=below_undrew hb));(try (replace hb:=below_undrewN hb));obtain ⟨hc,hf⟩:=bcell hb;(try (have hz0 : w.heap.size < w'.heap.size:=(by have:=hb.size;(try simp at this);omega)));(try (have hz1 : w.heap.size + 1 < w'.heap.size:=(by have:=hb.size;(try simp at this);omega)));(try (have hz2 : w.heap.size + 2 < w'.heap.size:=(by have:=hb.size;(try simp at this);omega)));(try (have hz3 : w.heap.size + 3 < w'.heap.size:=(by have:=hb.size;(try simp at this);omega))))) | (go_at_call 102;refine (fits_q _ _ _).mono ?_;rintro e w' ⟨rfl,rfl⟩) | (go_at_call 103;refine (compared_q _ _ _).mono ?_;rintro e w' ⟨rfl,rfl⟩) | (go_at_call 104;refine (compare_c _ _ _ _ _ _ _ _ _ hn hn').mono ?_;rintro e w' ⟨rfl,hb⟩;(try (replace hb:=below_undrew hb));(try (replace hb:=below_undrewN hb));obtain ⟨hc,hf⟩:=bcell hb;(try (have hz0 : w.heap.size < w'.heap.size:=(by have:=hb.size;(try simp at this);omega)));(try (have hz1 : w.heap.size + 1 < w'.heap.size:=(by have:=hb.size;(try simp at this);omega)));(try (have hz2 : w.heap.size + 2 < w'.heap.size:=(by have:=hb.size;(try simp at this);omega)));(try (have hz3 : w.heap.size + 3 < w'.heap.size:=(by have:=hb.size;(try simp at this);omega)))) | (go_at_call 98;refine (ofBool_c _ _).mono ?_;rintro e w' ⟨rfl,hb⟩;(try (replace hb:=below_undrew hb));(try (replace hb:=below_undrewN hb));obtain ⟨hc,hf⟩:=bcell hb;(try (have hz0 : w.heap.size < w'.heap.size:=(by have:=hb.size;(try simp at this);omega)));(try (have hz1 : w.heap.size + 1 < w'.heap.size:=(by have:=hb.size;(try simp at this);omega)));(try (have hz2 : w.heap.size + 2 < w'.heap.size:=(by have:=hb.size;(try simp at this);omega)));(try (have hz3 : w.heap.size + 3 < w'.heap.size:=(by have:=hb.size;(try simp at this);omega)))) | (go_at_call 105;refine (text_c _ _).mono ?_;rintro e w' h;obtain ⟨⟨rk,rn,rf,rt,hr,rfl⟩ | ⟨rc,hr,rfl⟩,hb⟩:=outV_cases h <;> (clear h;(try (replace hb:=below_undrew hb));(try (replace hb:=below_undrewN hb));obtain ⟨hc,hf⟩:=bcell hb;(try (have hz0 : w.heap.size < w'.heap.size:=(by have:=hb.size;(try simp at this);omega)));(try (have hz1 : w.heap.size + 1 < w'.heap.size:=(by have:=hb.size;(try simp at this);omega)));(try (have hz2 : w.heap.size + 2 < w'.heap.size:=(by have:=hb.size;(try simp at this);omega)));(try (have hz3 : w.heap.size + 3 < w'.heap.size:=(by have:=hb.size;(try simp at this);omega))))) | (go_at_call 109;refine (ofInt_c _ _).mono ?_;rintro e w' ⟨rfl,hb⟩;(try (replace hb:=below_undrew hb));(try (replace hb:=below_undrewN hb));obtain ⟨hc,hf⟩:=bcell hb;(try (have hz0 : w.heap.size < w'.heap.size:=(by have:=hb.size;(try simp at this);omega)));(try (have hz1 : w.heap.size + 1 < w'.heap.size:=(by have:=hb.size;(try simp at this);omega)));(try (have hz2 : w.heap.size + 2 < w'.heap.size:=(by have:=hb.size;(try simp at this);omega)));(try (have hz3 : w.heap.size + 3 < w'.heap.size:=(by have:=hb.size;(try simp at this);omega)))) | (go_at_call 110;refine (ints_c _ _ _ _ hn hn').mono ?_;rintro e w' h;rcases outI_bind h with ⟨x,hx,rfl,rfl⟩ | ⟨x,hx,rfl,rfl⟩ <;> clear h))
  (exact bodyPost_ret (v:=.agg #[.int .i64 (0),.int .i64 (0),.int .u64 (0),.string (⟨#[]⟩)]) (by simp [results,Tryz.results62,go_sem, *]) rfl (outV_ret (x:=⟨0,0,0,⟨#[]⟩⟩) (rfl) (by repeat (first | (with_reducible exact Below.refl _ _) | (with_reducible refine below_al ?_ _) | (with_reducible refine below_drewN ?_ _) | (with_reducible refine Below.drew ?_) | (with_reducible refine below_via (by assumption) ?_) | (with_reducible refine below_sc ?_ ?_ _;· (first | (simp;done) | (simp;omega) | omega))))))
end Go.Proofs.YtakcjiinchghaaaGreatDoor
end
section
namespace Go.Proofs.YtakcjiinchghaaaGreatDoor
set_option linter.unusedVariables false
set_option linter.unusedSimpArgs false
open Go.RowKit
set_option maxRecDepth 100000 in
set_option maxHeartbeats 2000000 in
theorem two_cmp (code k n f : Int) (t : ByteArray) (n' f' : Int) (t' : ByteArray) (w : World) (hn : I64 n) (hn' : I64 n') (s1 : soundV k n f t = true) (s2 : soundV k n' f' t' = true) (e1 : decide (10 ≤ code) = true) (e2 : decide (code ≤ 24) = true) (l1 : (code == 22) = false) (l2 : (code == 23) = false) (l3 : (code == 24) = false) (z1 : (k == 0) = false) (g1 : fitsB code k = true) (hc : decide (16 ≤ code) = true) :
  Calls Tryz.prog 62 #[.int .i64 code,.agg #[.int .i64 k,.int .i64 n,.int .u64 f,.string t],.agg #[.int .i64 k,.int .i64 n',.int .u64 f',.string t']] w (OutV (.ok ⟨1,b2i (comparedB code (cmpV k n f t k n' f' t')),0,⟨#[]⟩⟩) w):=by
 go_enter Tryz.func62,Tryz.ntmps62
 go_wp2_with (first | (go_at_call_of 28 (Value.agg #[.int .i64 k,.int .i64 n,.int .u64 f,.string t]);refine (sound_c k n f t _ hn).mono ?_;rintro e w' ⟨rfl,hb⟩;obtain ⟨hc,hf⟩:=bcell hb;(try (have hz0 : w.heap.size < w'.heap.size:=(by have:=hb.size;(try simp at this);omega)));(try (have hz1 : w.heap.size + 1 < w'.heap.size:=(by have:=hb.size;(try simp at this);omega)));(try (have hz2 : w.heap.size + 2 < w'.heap.size:=(by have:=hb.size;(try simp at this);omega)));(try (have hz3 : w.heap.size + 3 < w'.heap.size:=(by have:=hb.size;(try simp at this);omega)))) | (go_at_call 28;refine (sound_c k n' f' t' _ hn').mono ?_;rintro e w' ⟨rfl,hb⟩;obtain ⟨hc,hf⟩:=bcell hb;(try (have hz0 : w.heap.size < w'.heap.size:=(by have:=hb.size;(try simp at this);omega)));(try (have hz1 : w.heap.size + 1 < w'.heap.size:=(by have:=hb.size;(try simp at this);omega)));(try (have hz2 : w.heap.size + 2 < w'.heap.size:=(by have:=hb.size;(try simp at this);omega)));(try (have hz3 : w.heap.size + 3 < w'.heap.size:=(by have:=hb.size;(try simp at this);omega)))) | (go_at_call 97;((with_reducible refine (must_t _ _).mono ?_);rintro e w' ⟨rfl,rfl⟩)) | (go_at_call 97;((with_reducible refine (must_f _ _).mono ?_);rintro e w' ⟨rfl,rfl⟩)) | (go_at_call 97;refine (must_c _ _ _).mono ?_;rintro e w' ⟨(⟨hm,rfl⟩ | ⟨hm,rfl⟩),rfl⟩) | (go_at_call 101;refine (logic_c _ _ _ _ _ _ _ _ _ _).mono ?_;rintro e w' h;obtain ⟨⟨rk,rn,rf,rt,hr,rfl⟩ | ⟨rc,hr,rfl⟩,hb⟩:=outV_cases h <;> (clear h;(try (replace hb:=below_undrew hb));(try (replace hb:=below_undrewN hb));obtain ⟨hc,hf⟩:=bcell hb;(try (have hz0 : w.heap.size < w'.heap.size:=(by have:=hb.size;(try simp at this);omega)));(try (have hz1 : w.heap.size + 1 < w'.heap.size:=(by have:=hb.size;(try simp at this);omega)));(try (have hz2 : w.heap.size + 2 < w'.heap.size:=(by have:=hb.size;(try simp at this);omega)));(try (have hz3 : w.heap.size + 3 < w'.heap.size:=(by have:=hb.size;(try simp at this);omega))))) | (go_at_call 102;refine (fits_q _ _ _).mono ?_;rintro e w' ⟨rfl,rfl⟩) | (go_at_call 103;refine (compared_q _ _ _).mono ?_;rintro e w' ⟨rfl,rfl⟩) | (go_at_call 104;refine (compare_c _ _ _ _ _ _ _ _ _ hn hn').mono ?_;rintro e w' ⟨rfl,hb⟩;(try (replace hb:=below_undrew hb));(try (replace hb:=below_undrewN hb));obtain ⟨hc,hf⟩:=bcell hb;(try (have hz0 : w.heap.size < w'.heap.size:=(by have:=hb.size;(try simp at this);omega)));(try (have hz1 : w.heap.size + 1 < w'.heap.size:=(by have:=hb.size;(try simp at this);omega)));(try (have hz2 : w.heap.size + 2 < w'.heap.size:=(by have:=hb.size;(try simp at this);omega)));(try (have hz3 : w.heap.size + 3 < w'.heap.size:=(by have:=hb.size;(try simp at this);omega)))) | (go_at_call 98;refine (ofBool_c _ _).mono ?_;rintro e w' ⟨rfl,hb⟩;(try (replace hb:=below_undrew hb));(try (replace hb:=below_undrewN hb));obtain ⟨hc,hf⟩:=bcell hb;(try (have hz0 : w.heap.size < w'.heap.size:=(by have:=hb.size;(try simp at this);omega)));(try (have hz1 : w.heap.size + 1 < w'.heap.size:=(by have:=hb.size;(try simp at this);omega)));(try (have hz2 : w.heap.size + 2 < w'.heap.size:=(by have:=hb.size;(try simp at this);omega)));(try (have hz3 : w.heap.size + 3 < w'.heap.size:=(by have:=hb.size;(try simp at this);omega)))) | (go_at_call 105;refine (text_c _ _).mono ?_;rintro e w' h;obtain ⟨⟨rk,rn,rf,rt,hr,rfl⟩ | ⟨rc,hr,rfl⟩,hb⟩:=outV_cases h <;> (clear h;(try (replace hb:=below_undrew hb));(try (replace hb:=below_undrewN hb));obtain ⟨hc,hf⟩:=bcell hb;(try (have hz0 : w.heap.size < w'.heap.size:=(by have:=hb.size;(try simp at this);omega)));(try (have hz1 : w.heap.size + 1 < w'.heap.size:=(by have:=hb.size;(try simp at this);omega)));(try (have hz2 : w.heap.size + 2 < w'.heap.size:=(by have:=hb.size;(try simp at this);omega)));(try (have hz3 : w.heap.size + 3 < w'.heap.size:=(by have:=hb.size;(try simp at this);omega))))) | (go_at_call 109;refine (ofInt_c _ _).mono ?_;rintro e w' ⟨rfl,hb⟩;(try (replace hb:=below_undrew hb));(try (replace hb:=below_undrewN hb));obtain ⟨hc,hf⟩:=bcell hb;(try (have hz0 : w.heap.size < w'.heap.size:=(by have:=hb.size;(try simp at this);omega)));(try (have hz1 : w.heap.size + 1 < w'.heap.size:=(by have:=hb.size;(try simp at this);omega)));(try (have hz2 : w.heap.size + 2 < w'.heap.size:=(by have:=hb.size;(try simp at this);omega)));(try (have hz3 : w.heap.size + 3 < w'.heap.size:=(by have:=hb.size;(try simp at this);omega)))) | (go_at_call 110;refine (ints_c _ _ _ _ hn hn').mono ?_;rintro e w' h;rcases outI_bind h with ⟨x,hx,rfl,rfl⟩ | ⟨x,hx,rfl,rfl⟩ <;> clear h))
 (exact bodyPost_ret (v:=.agg #[.int .i64 (1),.int .i64 (b2i (comparedB code (cmpV k n f t k n' f' t'))),.int .u64 (0),.string (⟨#[]⟩)]) (by simp [results,Tryz.results62,go_sem, *]) rfl (outV_ret (x:=⟨1,b2i (comparedB code (cmpV k n f t k n' f' t')),0,⟨#[]⟩⟩) (rfl) (by repeat (first | (with_reducible exact Below.refl _ _) | (with_reducible refine below_al ?_ _) | (with_reducible refine below_drewN ?_ _) | (with_reducible refine Below.drew ?_) | (with_reducible refine below_via (by assumption) ?_) | (with_reducible refine below_sc ?_ ?_ _;· (first | (simp;done) | (simp;omega) | omega))))))
set_option maxRecDepth 100000 in
set_option maxHeartbeats 2000000 in
theorem two_cat (n f : Int) (t : ByteArray) (n' f' : Int) (t' : ByteArray) (w : World) (hn : I64 n) (hn' : I64 n') (s1 : soundV 4 n f t = true) (s2 : soundV 4 n' f' t' = true)  (hlen : t.size + t'.size ≤ 8192) :
  Calls Tryz.prog 62 #[.int .i64 15,.agg #[.int .i64 4,.int .i64 n,.int .u64 f,.string t],.agg #[.int .i64 4,.int .i64 n',.int .u64 f',.string t']] w (OutV (textS (t ++ t')) w):=by
 have hl2 : (t.size : Int) + (t'.size : Int) ≤ 8192:=by omega
 have g1 : fitsB 15 4 = true:=by decide
 go_enter Tryz.func62,Tryz.ntmps62
 go_wp2_with (first | (go_at_call_of 28 (Value.agg #[.int .i64 4,.int .i64 n,.int .u64 f,.string t]);refine (sound_c 4 n f t _ hn).mono ?_;rintro e w' ⟨rfl,hb⟩;obtain ⟨hc,hf⟩:=bcell hb;(try (have hz0 : w.heap.size < w'.heap.size:=(by have:=hb.size;(try simp at this);omega)));(try (have hz1 : w.heap.size + 1 < w'.heap.size:=(by have:=hb.size;(try simp at this);omega)));(try (have hz2 : w.heap.size + 2 < w'.heap.size:=(by have:=hb.size;(try simp at this);omega)));(try (have hz3 : w.heap.size + 3 < w'.heap.size:=(by have:=hb.size;(try simp at this);omega)))) | (go_at_call 28;refine (sound_c 4 n' f' t' _ hn').mono ?_;rintro e w' ⟨rfl,hb⟩;obtain ⟨hc,hf⟩:=bcell hb;(try (have hz0 : w.heap.size < w'.heap.size:=(by have:=hb.size;(try simp at this);omega)));(try (have hz1 : w.heap.size + 1 < w'.heap.size:=(by have:=hb.size;(try simp at this);omega)));(try (have hz2 : w.heap.size + 2 < w'.heap.size:=(by have:=hb.size;(try simp at this);omega)));(try (have hz3 : w.heap.size + 3 < w'.heap.size:=(by have:=hb.size;(try simp at this);omega)))) | (go_at_call 97;((with_reducible refine (must_t _ _).mono ?_);rintro e w' ⟨rfl,rfl⟩)) | (go_at_call 97;((with_reducible refine (must_f _ _).mono ?_);rintro e w' ⟨rfl,rfl⟩)) | (go_at_call 97;refine (must_c _ _ _).mono ?_;rintro e w' ⟨(⟨hm,rfl⟩ | ⟨hm,rfl⟩),rfl⟩) | (go_at_call 101;refine (logic_c _ _ _ _ _ _ _ _ _ _).mono ?_;rintro e w' h;obtain ⟨⟨rk,rn,rf,rt,hr,rfl⟩ | ⟨rc,hr,rfl⟩,hb⟩:=outV_cases h <;> (clear h;(try (replace hb:=below_undrew hb));(try (replace hb:=below_undrewN hb));obtain ⟨hc,hf⟩:=bcell hb;(try (have hz0 : w.heap.size < w'.heap.size:=(by have:=hb.size;(try simp at this);omega)));(try (have hz1 : w.heap.size + 1 < w'.heap.size:=(by have:=hb.size;(try simp at this);omega)));(try (have hz2 : w.heap.size + 2 < w'.heap.size:=(by have:=hb.size;(try simp at this);omega)));(try (have hz3 : w.heap.size + 3 < w'.heap.size:=(by have:=hb.size;(try simp at this);omega))))) | (go_at_call 102;refine (fits_q _ _ _).mono ?_;rintro e w' ⟨rfl,rfl⟩) | (go_at_call 103;refine (compared_q _ _ _).mono ?_;rintro e w' ⟨rfl,rfl⟩) | (go_at_call 104;refine (compare_c _ _ _ _ _ _ _ _ _ hn hn').mono ?_;rintro e w' ⟨rfl,hb⟩;(try (replace hb:=below_undrew hb));(try (replace hb:=below_undrewN hb));obtain ⟨hc,hf⟩:=bcell hb;(try (have hz0 : w.heap.size < w'.heap.size:=(by have:=hb.size;(try simp at this);omega)));(try (have hz1 : w.heap.size + 1 < w'.heap.size:=(by have:=hb.size;(try simp at this);omega)));(try (have hz2 : w.heap.size + 2 < w'.heap.size:=(by have:=hb.size;(try simp at this);omega)));(try (have hz3 : w.heap.size + 3 < w'.heap.size:=(by have:=hb.size;(try simp at this);omega)))) | (go_at_call 98;refine (ofBool_c _ _).mono ?_;rintro e w' ⟨rfl,hb⟩;(try (replace hb:=below_undrew hb));(try (replace hb:=below_undrewN hb));obtain ⟨hc,hf⟩:=bcell hb;(try (have hz0 : w.heap.size < w'.heap.size:=(by have:=hb.size;(try simp at this);omega)));(try (have hz1 : w.heap.size + 1 < w'.heap.size:=(by have:=hb.size;(try simp at this);omega)));(try (have hz2 : w.heap.size + 2 < w'.heap.size:=(by have:=hb.size;(try simp at this);omega)));(try (have hz3 : w.heap.size + 3 < w'.heap.size:=(by have:=hb.size;(try simp at this);omega)))) | (go_at_call 105;refine (text_c _ _).mono ?_;rintro e w' h;obtain ⟨⟨rk,rn,rf,rt,hr,rfl⟩ | ⟨rc,hr,rfl⟩,hb⟩:=outV_cases h <;> (clear h;(try (replace hb:=below_undrew hb));(try (replace hb:=below_undrewN hb));obtain ⟨hc,hf⟩:=bcell hb;(try (have hz0 : w.heap.size < w'.heap.size:=(by have:=hb.size;(try simp at this);omega)));(try (have hz1 : w.heap.size + 1 < w'.heap.size:=(by have:=hb.size;(try simp at this);omega)));(try (have hz2 : w.heap.size + 2 < w'.heap.size:=(by have:=hb.size;(try simp at this);omega)));(try (have hz3 : w.heap.size + 3 < w'.heap.size:=(by have:=hb.size;(try simp at this);omega))))) | (go_at_call 109;refine (ofInt_c _ _).mono ?_;rintro e w' ⟨rfl,hb⟩;(try (replace hb:=below_undrew hb));(try (replace hb:=below_undrewN hb));obtain ⟨hc,hf⟩:=bcell hb;(try (have hz0 : w.heap.size < w'.heap.size:=(by have:=hb.size;(try simp at this);omega)));(try (have hz1 : w.heap.size + 1 < w'.heap.size:=(by have:=hb.size;(try simp at this);omega)));(try (have hz2 : w.heap.size + 2 < w'.heap.size:=(by have:=hb.size;(try simp at this);omega)));(try (have hz3 : w.heap.size + 3 < w'.heap.size:=(by have:=hb.size;(try simp at this);omega)))) | (go_at_call 110;refine (ints_c _ _ _ _ hn hn').mono ?_;rintro e w' h;rcases outI_bind h with ⟨x,hx,rfl,rfl⟩ | ⟨x,hx,rfl,rfl⟩ <;> clear h))
 ·(exact bodyPost_ret (v:=.agg #[.int .i64 (rk),.int .i64 (rn),.int .u64 (rf),.string (rt)]) (by simp [results,Tryz.results62,go_sem, *]) rfl (outV_ret (x:=⟨rk,rn,rf,rt⟩) (by first | exact hr | rfl) (by repeat (first | (with_reducible exact Below.refl _ _) | (with_reducible refine below_al ?_ _) | (with_reducible refine below_drewN ?_ _) | (with_reducible refine Below.drew ?_) | (with_reducible refine below_via (by assumption) ?_) | (with_reducible refine below_sc ?_ ?_ _;· (first | (simp;done) | (simp;omega) | omega))))))
 ·(exact ⟨rfl,outV_pan (by first | exact hr | rfl) (by repeat (first | (with_reducible exact Below.refl _ _) | (with_reducible refine below_al ?_ _) | (with_reducible refine below_drewN ?_ _) | (with_reducible refine Below.drew ?_) | (with_reducible refine below_via (by assumption) ?_) | (with_reducible refine below_sc ?_ ?_ _;· (first | (simp;done) | (simp;omega) | omega))))⟩)
set_option maxRecDepth 100000 in
set_option maxHeartbeats 2000000 in
theorem two_int (code k n f : Int) (t : ByteArray) (n' f' : Int) (t' : ByteArray) (w : World) (hn : I64 n) (hn' : I64 n') (s1 : soundV k n f t = true) (s2 : soundV k n' f' t' = true) (e1 : decide (10 ≤ code) = true) (e2 : decide (code ≤ 24) = true) (l1 : (code == 22) = false) (l2 : (code == 23) = false) (l3 : (code == 24) = false) (z1 : (k == 0) = false) (z3 : (k == 3) = false) (g1 : fitsB code k = true) (hc : decide (16 ≤ code) = false) (hc15 : (code == 15) = false) :
  Calls Tryz.prog 62 #[.int .i64 code,.agg #[.int .i64 k,.int .i64 n,.int .u64 f,.string t],.agg #[.int .i64 k,.int .i64 n',.int .u64 f',.string t']] w (OutV (addI (intsS code n n')) w):=by
 go_enter Tryz.func62,Tryz.ntmps62
 go_wp2_with (first | (go_at_call_of 28 (Value.agg #[.int .i64 k,.int .i64 n,.int .u64 f,.string t]);refine (sound_c k n f t _ hn).mono ?_;rintro e w' ⟨rfl,hb⟩;obtain ⟨hc,hf⟩:=bcell hb;(try (have hz0 : w.heap.size < w'.heap.size:=(by have:=hb.size;(try simp at this);omega)));(try (have hz1 : w.heap.size + 1 < w'.heap.size:=(by have:=hb.size;(try simp at this);omega)));(try (have hz2 : w.heap.size + 2 < w'.heap.size:=(by have:=hb.size;(try simp at this);omega)));(try (have hz3 : w.heap.size + 3 < w'.heap.size:=(by have:=hb.size;(try simp at this);omega)))) | (go_at_call 28;refine (sound_c k n' f' t' _ hn').mono ?_;rintro e w' ⟨rfl,hb⟩;obtain ⟨hc,hf⟩:=bcell hb;(try (have hz0 : w.heap.size < w'.heap.size:=(by have:=hb.size;(try simp at this);omega)));(try (have hz1 : w.heap.size + 1 < w'.heap.size:=(by have:=hb.size;(try simp at this);omega)));(try (have hz2 : w.heap.size + 2 < w'.heap.size:=(by have:=hb.size;(try simp at this);omega)));(try (have hz3 : w.heap.size + 3 < w'.heap.size:=(by have:=hb.size;(try simp at this);omega)))) | (go_at_call 97;((with_reducible refine (must_t _ _).mono ?_);rintro e w' ⟨rfl,rfl⟩)) | (go_at_call 97;((with_reducible refine (must_f _ _).mono ?_);rintro e w' ⟨rfl,rfl⟩)) | (go_at_call 97;refine (must_c _ _ _).mono ?_;rintro e w' ⟨(⟨hm,rfl⟩ | ⟨hm,rfl⟩),rfl⟩) | (go_at_call 101;refine (logic_c _ _ _ _ _ _ _ _ _ _).mono ?_;rintro e w' h;obtain ⟨⟨rk,rn,rf,rt,hr,rfl⟩ | ⟨rc,hr,rfl⟩,hb⟩:=outV_cases h <;> (clear h;(try (replace hb:=below_undrew hb));(try (replace hb:=below_undrewN hb));obtain ⟨hc,hf⟩:=bcell hb;(try (have hz0 : w.heap.size < w'.heap.size:=(by have:=hb.size;(try simp at this);omega)));(try (have hz1 : w.heap.size + 1 < w'.heap.size:=(by have:=hb.size;(try simp at this);omega)));(try (have hz2 : w.heap.size + 2 < w'.heap.size:=(by have:=hb.size;(try simp at this);omega)));(try (have hz3 : w.heap.size + 3 < w'.heap.size:=(by have:=hb.size;(try simp at this);omega))))) | (go_at_call 102;refine (fits_q _ _ _).mono ?_;rintro e w' ⟨rfl,rfl⟩) | (go_at_call 103;refine (compared_q _ _ _).mono ?_;rintro e w' ⟨rfl,rfl⟩) | (go_at_call 104;refine (compare_c _ _ _ _ _ _ _ _ _ hn hn').mono ?_;rintro e w' ⟨rfl,hb⟩;(try (replace hb:=below_undrew hb));(try (replace hb:=below_undrewN hb));obtain ⟨hc,hf⟩:=bcell hb;(try (have hz0 : w.heap.size < w'.heap.size:=(by have:=hb.size;(try simp at this);omega)));(try (have hz1 : w.heap.size + 1 < w'.heap.size:=(by have:=hb.size;(try simp at this);omega)));(try (have hz2 : w.heap.size + 2 < w'.heap.size:=(by have:=hb.size;(try simp at this);omega)));(try (have hz3 : w.heap.size + 3 < w'.heap.size:=(by have:=hb.size;(try simp at this);omega)))) | (go_at_call 98;refine (ofBool_c _ _).mono ?_;rintro e w' ⟨rfl,hb⟩;(try (replace hb:=below_undrew hb));(try (replace hb:=below_undrewN hb));obtain ⟨hc,hf⟩:=bcell hb;(try (have hz0 : w.heap.size < w'.heap.size:=(by have:=hb.size;(try simp at this);omega)));(try (have hz1 : w.heap.size + 1 < w'.heap.size:=(by have:=hb.size;(try simp at this);omega)));(try (have hz2 : w.heap.size + 2 < w'.heap.size:=(by have:=hb.size;(try simp at this);omega)));(try (have hz3 : w.heap.size + 3 < w'.heap.size:=(by have:=hb.size;(try simp at this);omega)))) | (go_at_call 105;refine (text_c _ _).mono ?_;rintro e w' h;obtain ⟨⟨rk,rn,rf,rt,hr,rfl⟩ | ⟨rc,hr,rfl⟩,hb⟩:=outV_cases h <;> (clear h;(try (replace hb:=below_undrew hb));(try (replace hb:=below_undrewN hb));obtain ⟨hc,hf⟩:=bcell hb;(try (have hz0 : w.heap.size < w'.heap.size:=(by have:=hb.size;(try simp at this);omega)));(try (have hz1 : w.heap.size + 1 < w'.heap.size:=(by have:=hb.size;(try simp at this);omega)));(try (have hz2 : w.heap.size + 2 < w'.heap.size:=(by have:=hb.size;(try simp at this);omega)));(try (have hz3 : w.heap.size + 3 < w'.heap.size:=(by have:=hb.size;(try simp at this);omega))))) | (go_at_call 109;refine (ofInt_c _ _).mono ?_;rintro e w' ⟨rfl,hb⟩;(try (replace hb:=below_undrew hb));(try (replace hb:=below_undrewN hb));obtain ⟨hc,hf⟩:=bcell hb;(try (have hz0 : w.heap.size < w'.heap.size:=(by have:=hb.size;(try simp at this);omega)));(try (have hz1 : w.heap.size + 1 < w'.heap.size:=(by have:=hb.size;(try simp at this);omega)));(try (have hz2 : w.heap.size + 2 < w'.heap.size:=(by have:=hb.size;(try simp at this);omega)));(try (have hz3 : w.heap.size + 3 < w'.heap.size:=(by have:=hb.size;(try simp at this);omega)))) | (go_at_call 110;refine (ints_c _ _ _ _ hn hn').mono ?_;rintro e w' h;rcases outI_bind h with ⟨x,hx,rfl,rfl⟩ | ⟨x,hx,rfl,rfl⟩ <;> clear h))
 ·(exact bodyPost_ret (v:=.agg #[.int .i64 (2),.int .i64 (x),.int .u64 (0),.string (⟨#[]⟩)]) (by simp [results,Tryz.results62,go_sem, *]) rfl (outV_ret (x:=⟨2,x,0,⟨#[]⟩⟩) (by first | rfl | (rw [hx];rfl)) (by repeat (first | (with_reducible exact Below.refl _ _) | (with_reducible refine below_al ?_ _) | (with_reducible refine below_drewN ?_ _) | (with_reducible refine Below.drew ?_) | (with_reducible refine below_via (by assumption) ?_) | (with_reducible refine below_sc ?_ ?_ _;· (first | (simp;done) | (simp;omega) | omega))))))
 ·(exact ⟨rfl,outV_pan (by first | rfl | (rw [hx];rfl)) (by repeat (first | (with_reducible exact Below.refl _ _) | (with_reducible refine below_al ?_ _) | (with_reducible refine below_drewN ?_ _) | (with_reducible refine Below.drew ?_) | (with_reducible refine below_via (by assumption) ?_) | (with_reducible refine below_sc ?_ ?_ _;· (first | (simp;done) | (simp;omega) | omega))))⟩)
set_option maxRecDepth 100000 in
set_option maxHeartbeats 2000000 in
theorem two_flt (code n f : Int) (t : ByteArray) (n' f' : Int) (t' : ByteArray) (w : World) (hn : I64 n) (hn' : I64 n') (s1 : soundV 3 n f t = true) (s2 : soundV 3 n' f' t' = true) (e1 : decide (10 ≤ code) = true) (e2 : decide (code ≤ 24) = true) (l1 : (code == 22) = false) (l2 : (code == 23) = false) (l3 : (code == 24) = false) (g1 : fitsB code 3 = true) (hc : decide (16 ≤ code) = false) (hc15 : (code == 15) = false) :
  Calls Tryz.prog 62 #[.int .i64 code,.agg #[.int .i64 3,.int .i64 n,.int .u64 f,.string t],.agg #[.int .i64 3,.int .i64 n',.int .u64 f',.string t']] w (OutV (.ok ⟨3,0,floatS code f.toNat f'.toNat,⟨#[]⟩⟩) w):=by
 go_enter Tryz.func62,Tryz.ntmps62
 go_wp2_with (first | (go_at_call_of 28 (Value.agg #[.int .i64 3,.int .i64 n,.int .u64 f,.string t]);refine (sound_c 3 n f t _ hn).mono ?_;rintro e w' ⟨rfl,hb⟩;obtain ⟨hc,hf⟩:=bcell hb;(try (have hz0 : w.heap.size < w'.heap.size:=(by have:=hb.size;(try simp at this);omega)));(try (have hz1 : w.heap.size + 1 < w'.heap.size:=(by have:=hb.size;(try simp at this);omega)));(try (have hz2 : w.heap.size + 2 < w'.heap.size:=(by have:=hb.size;(try simp at this);omega)));(try (have hz3 : w.heap.size + 3 < w'.heap.size:=(by have:=hb.size;(try simp at this);omega)))) | (go_at_call 28;refine (sound_c 3 n' f' t' _ hn').mono ?_;rintro e w' ⟨rfl,hb⟩;obtain ⟨hc,hf⟩:=bcell hb;(try (have hz0 : w.heap.size < w'.heap.size:=(by have:=hb.size;(try simp at this);omega)));(try (have hz1 : w.heap.size + 1 < w'.heap.size:=(by have:=hb.size;(try simp at this);omega)));(try (have hz2 : w.heap.size + 2 < w'.heap.size:=(by have:=hb.size;(try simp at this);omega)));(try (have hz3 : w.heap.size + 3 < w'.heap.size:=(by have:=hb.size;(try simp at this);omega)))) | (go_at_call 97;((with_reducible refine (must_t _ _).mono ?_);rintro e w' ⟨rfl,rfl⟩)) | (go_at_call 97;((with_reducible refine (must_f _ _).mono ?_);rintro e w' ⟨rfl,rfl⟩)) | (go_at_call 97;refine (must_c _ _ _).mono ?_;rintro e w' ⟨(⟨hm,rfl⟩ | ⟨hm,rfl⟩),rfl⟩) | (go_at_call 101;refine (logic_c _ _ _ _ _ _ _ _ _ _).mono ?_;rintro e w' h;obtain ⟨⟨rk,rn,rf,rt,hr,rfl⟩ | ⟨rc,hr,rfl⟩,hb⟩:=outV_cases h <;> (clear h;(try (replace hb:=below_undrew hb));(try (replace hb:=below_undrewN hb));obtain ⟨hc,hf⟩:=bcell hb;(try (have hz0 : w.heap.size < w'.heap.size:=(by have:=hb.size;(try simp at this);omega)));(try (have hz1 : w.heap.size + 1 < w'.heap.size:=(by have:=hb.size;(try simp at this);omega)));(try (have hz2 : w.heap.size + 2 < w'.heap.size:=(by have:=hb.size;(try simp at this);omega)));(try (have hz3 : w.heap.size + 3 < w'.heap.size:=(by have:=hb.size;(try simp at this);omega))))) | (go_at_call 102;refine (fits_q _ _ _).mono ?_;rintro e w' ⟨rfl,rfl⟩) | (go_at_call 103;refine (compared_q _ _ _).mono ?_;rintro e w' ⟨rfl,rfl⟩) | (go_at_call 104;refine (compare_c _ _ _ _ _ _ _ _ _ hn hn').mono ?_;rintro e w' ⟨rfl,hb⟩;(try (replace hb:=below_undrew hb));(try (replace hb:=below_undrewN hb));obtain ⟨hc,hf⟩:=bcell hb;(try (have hz0 : w.heap.size < w'.heap.size:=(by have:=hb.size;(try simp at this);omega)));(try (have hz1 : w.heap.size + 1 < w'.heap.size:=(by have:=hb.size;(try simp at this);omega)));(try (have hz2 : w.heap.size + 2 < w'.heap.size:=(by have:=hb.size;(try simp at this);omega)));(try (have hz3 : w.heap.size + 3 < w'.heap.size:=(by have:=hb.size;(try simp at this);omega)))) | (go_at_call 98;refine (ofBool_c _ _).mono ?_;rintro e w' ⟨rfl,hb⟩;(try (replace hb:=below_undrew hb));(try (replace hb:=below_undrewN hb));obtain ⟨hc,hf⟩:=bcell hb;(try (have hz0 : w.heap.size < w'.heap.size:=(by have:=hb.size;(try simp at this);omega)));(try (have hz1 : w.heap.size + 1 < w'.heap.size:=(by have:=hb.size;(try simp at this);omega)));(try (have hz2 : w.heap.size + 2 < w'.heap.size:=(by have:=hb.size;(try simp at this);omega)));(try (have hz3 : w.heap.size + 3 < w'.heap.size:=(by have:=hb.size;(try simp at this);omega)))) | (go_at_call 105;refine (text_c _ _).mono ?_;rintro e w' h;obtain ⟨⟨rk,rn,rf,rt,hr,rfl⟩ | ⟨rc,hr,rfl⟩,hb⟩:=outV_cases h <;> (clear h;(try (replace hb:=below_undrew hb));(try (replace hb:=below_undrewN hb));obtain ⟨hc,hf⟩:=bcell hb;(try (have hz0 : w.heap.size < w'.heap.size:=(by have:=hb.size;(try simp at this);omega)));(try (have hz1 : w.heap.size + 1 < w'.heap.size:=(by have:=hb.size;(try simp at this);omega)));(try (have hz2 : w.heap.size + 2 < w'.heap.size:=(by have:=hb.size;(try simp at this);omega)));(try (have hz3 : w.heap.size + 3 < w'.heap.size:=(by have:=hb.size;(try simp at this);omega))))) | (go_at_call 109;refine (ofInt_c _ _).mono ?_;rintro e w' ⟨rfl,hb⟩;(try (replace hb:=below_undrew hb));(try (replace hb:=below_undrewN hb));obtain ⟨hc,hf⟩:=bcell hb;(try (have hz0 : w.heap.size < w'.heap.size:=(by have:=hb.size;(try simp at this);omega)));(try (have hz1 : w.heap.size + 1 < w'.heap.size:=(by have:=hb.size;(try simp at this);omega)));(try (have hz2 : w.heap.size + 2 < w'.heap.size:=(by have:=hb.size;(try simp at this);omega)));(try (have hz3 : w.heap.size + 3 < w'.heap.size:=(by have:=hb.size;(try simp at this);omega)))) | (go_at_call 110;refine (ints_c _ _ _ _ hn hn').mono ?_;rintro e w' h;rcases outI_bind h with ⟨x,hx,rfl,rfl⟩ | ⟨x,hx,rfl,rfl⟩ <;> clear h))
 go_region_with (first | (go_at_call 108;refine (float_c _ _ _ _ _).mono ?_;rintro e w' ⟨rfl,hb⟩;(try (replace hb:=below_undrew hb));(try (replace hb:=below_undrewN hb));obtain ⟨hc,hf⟩:=bcell hb;(try (have hz0 : w.heap.size < w'.heap.size:=(by have:=hb.size;(try simp at this);omega)));(try (have hz1 : w.heap.size + 1 < w'.heap.size:=(by have:=hb.size;(try simp at this);omega)));(try (have hz2 : w.heap.size + 2 < w'.heap.size:=(by have:=hb.size;(try simp at this);omega)));(try (have hz3 : w.heap.size + 3 < w'.heap.size:=(by have:=hb.size;(try simp at this);omega)))) | (go_at_call 107;refine (floats_b _ _ _ _).mono ?_;rintro e w' ⟨r,rfl,hp,hb⟩;(try (replace hb:=below_undrew hb));obtain ⟨hc,hf⟩:=bcell hb;(try (have hz0 : w.heap.size < w'.heap.size:=(by have:=hb.size;(try simp at this);omega)));(try (have hz1 : w.heap.size + 1 < w'.heap.size:=(by have:=hb.size;(try simp at this);omega)));(try (have hz2 : w.heap.size + 2 < w'.heap.size:=(by have:=hb.size;(try simp at this);omega)));(try (have hz3 : w.heap.size + 3 < w'.heap.size:=(by have:=hb.size;(try simp at this);omega)))) | (go_at_call 106;refine (of_c _ _).mono ?_;rintro e w' ⟨rfl,hb⟩;(try (replace hb:=below_undrew hb));(try (replace hb:=below_undrewN hb));obtain ⟨hc,hf⟩:=bcell hb;(try (have hz0 : w.heap.size < w'.heap.size:=(by have:=hb.size;(try simp at this);omega)));(try (have hz1 : w.heap.size + 1 < w'.heap.size:=(by have:=hb.size;(try simp at this);omega)));(try (have hz2 : w.heap.size + 2 < w'.heap.size:=(by have:=hb.size;(try simp at this);omega)));(try (have hz3 : w.heap.size + 3 < w'.heap.size:=(by have:=hb.size;(try simp at this);omega)))))
 all_goals (go_wp2_with fail)
 all_goals (exact bodyPost_ret (v:=.agg #[.int .i64 (3),.int .i64 (0),.int .u64 (plainI r),.string (⟨#[]⟩)]) (by simp [results,Tryz.results62,go_sem, *]) rfl (outV_ret (x:=⟨3,0,plainI r,⟨#[]⟩⟩) (by rw [hp]) (by repeat (first | (with_reducible exact Below.refl _ _) | (with_reducible refine below_al ?_ _) | (with_reducible refine below_drewN ?_ _) | (with_reducible refine Below.drew ?_) | (with_reducible refine below_via (by assumption) ?_) | (with_reducible refine below_sc ?_ ?_ _;· (first | (simp;done) | (simp;omega) | omega))))))
end Go.Proofs.YtakcjiinchghaaaGreatDoor
end
section
namespace Go.Proofs.YtakcjiinchghaaaGreatDoor
set_option linter.unusedVariables false
set_option linter.unusedSimpArgs false
open Go.RowKit
theorem OutV.eq {r r' : Except Int V} {w : World} (h : r' = r) : ∀ e w',OutV r w e w' → OutV r' w e w':=fun _ _ h1=>by rw [h];exact h1
theorem sound_text {k n f : Int} {t : ByteArray} (h : soundV k n f t = true) : k = 4 → t.size ≤ 4096:=by
 rintro rfl
 simp [soundV] at h
 exact h.2
theorem two_c (code k n f : Int) (t : ByteArray) (k' n' f' : Int) (t' : ByteArray) (w : World) (hn : I64 n) (hn' : I64 n') :
  Calls Tryz.prog 62 #[.int .i64 code,.agg #[.int .i64 k,.int .i64 n,.int .u64 f,.string t],.agg #[.int .i64 k',.int .i64 n',.int .u64 f',.string t']] w (OutV (twoS code k n f t k' n' f' t') w):=by
 cases hs : (soundV k n f t && soundV k' n' f' t' && decide (10 ≤ code) && decide (code ≤ 24)) with
 | false=>exact (two_bad code k n f t k' n' f' t' w hn hn' hs).mono (OutV.eq (by simp only [twoS,hs,Bool.not_false,if_true]))
 | true =>
  have hs':=hs
  simp only [Bool.and_eq_true] at hs'
  obtain ⟨⟨⟨s1,s2⟩,e1⟩,e2⟩:=hs'
  cases hl : (code == 22 || code == 23) with
  | true =>
   refine (two_logic code k n f t k' n' f' t' w hn hn' s1 s2 (by simpa using hl)).mono (OutV.eq ?_)
   rw [twoS,hs,hl];rfl
  | false =>
   have hl':=hl
   simp only [Bool.or_eq_false_iff] at hl'
   obtain ⟨l1,l2⟩:=hl'
   cases hz : (k == 0 || k' == 0 || k == k') with
   | false =>
    have hz':=hz
    simp only [Bool.or_eq_false_iff] at hz'
    refine (two_unlike code k n f t k' n' f' t' w hn hn' s1 s2 e1 e2 l1 l2 hz'.1.1 hz'.1.2 hz'.2).mono (OutV.eq ?_)
    rw [twoS,hs,hl,hz];rfl
   | true =>
    cases l3 : (code == 24) with
    | true =>
     have hc : code = 24:=by simpa using l3
     subst hc
     refine (two_coal k n f t k' n' f' t' w hn hn' s1 s2 (by simp at hz;omega)).mono (OutV.eq ?_)
     rw [twoS,hs,hl,hz,l3];rfl
    | false =>
     cases hf : (fitsB code k && fitsB code k') with
     | false =>
      refine (two_unfit code k n f t k' n' f' t' w hn hn' s1 s2 e1 e2 l1 l2 l3 hz hf).mono (OutV.eq ?_)
      rw [twoS,hs,hl,hz,l3,hf];rfl
     | true =>
      have hf':=hf
      simp only [Bool.and_eq_true] at hf'
      cases hn0 : (k == 0 || k' == 0) with
      | true =>
       refine (two_null code k n f t k' n' f' t' w hn hn' s1 s2 e1 e2 l1 l2 l3 hn0 hf'.1 hf'.2).mono (OutV.eq ?_)
       rw [twoS,hs,hl,hz,l3,hf,hn0];rfl
      | false =>
       have hn1:=hn0
       simp only [Bool.or_eq_false_iff] at hn1
       have hk : k = k':=by simp [hn1.1,hn1.2] at hz;exact hz
       subst hk
       cases hc : decide (16 ≤ code) with
       | true =>
        refine (two_cmp code k n f t n' f' t' w hn hn' s1 s2 e1 e2 l1 l2 l3 hn1.1 hf'.1 hc).mono (OutV.eq ?_)
        rw [twoS,hs,hl,hz,l3,hf,hn0,hc];rfl
       | false =>
        cases h15 : (code == 15) with
        | true =>
         have hc15 : code = 15:=by simpa using h15
         subst hc15
         have hk4 : k = 4:=by
          have:=hf'.1
          simp [fitsB] at this hn1
          omega
         subst hk4
         have z1:=sound_text s1 rfl
         have z2:=sound_text s2 rfl
         refine (two_cat n f t n' f' t' w hn hn' s1 s2 (by omega)).mono (OutV.eq ?_)
         rw [twoS,hs,hl,hz,l3,hf,hn0,hc,h15];rfl
        | false =>
         cases h3 : (k == 3) with
         | true =>
          have hk3 : k = 3:=by simpa using h3
          subst hk3
          refine (two_flt code n f t n' f' t' w hn hn' s1 s2 e1 e2 l1 l2 l3 hf'.1 hc h15).mono (OutV.eq ?_)
          rw [twoS,hs,hl,hz,l3,hf,hn0,hc,h15,h3];rfl
         | false =>
          refine (two_int code k n f t n' f' t' w hn hn' s1 s2 e1 e2 l1 l2 l3 hn1.1 h3 hf'.1 hc h15).mono (OutV.eq ?_)
          rw [twoS,hs,hl,hz,l3,hf,hn0,hc,h15,h3];rfl
end Go.Proofs.YtakcjiinchghaaaGreatDoor
end
section
namespace Go.Proofs.YtakcjiinchghaaaGreatDoor
set_option linter.unusedVariables false
set_option linter.unusedSimpArgs false
open Go.RowKit
/-- what a door answers -/
def resV : Except Int V → V × Int
 | .ok x=>(x,0)
 | .error c=>(⟨0,0,0,⟨#[]⟩⟩,c)
theorem frame_same (c : Frame) (m : FrameMode) (h : c.mode = m) : c = { c with mode:=m }:=by cases c;cases h;rfl
theorem ta_nil (w : World) : (Instr.typeAssert .nilIface 20 133 true).run Tryz.prog w = .ok (.tuple #[.agg #[.int .i64 0],.bool false]) w:=by kernel_rfl
theorem ta_flt (c : Int) (w : World) : (Instr.typeAssert (.iface 133 (.agg #[.int .i64 c])) 20 133 true).run Tryz.prog w = .ok (.tuple #[.agg #[.int .i64 c],.bool true]) w:=by kernel_rfl
set_option maxRecDepth 100000 in
/-- the deferred function behind a return: nothing is recovered -/
theorem caught_ret (b : Nat) (w : World) (v : Value) :
  CallsD Tryz.prog 96 #[.pointer (some ⟨b,0,none⟩),v] .returning w fun e u' w'=>u' = .returning ∧ e = .returned (.tuple #[]) ∧ Below w.heap.size w w':=by
 refine callsD_of_wpS Tryz.func96 rfl fun c₀ cs hu=>?_
 simp only [Tryz.ntmps96,List.size_toArray,List.length_cons,List.length_nil,Nat.reduceAdd,Nat.reduceSub,Array.replicate_succ,Array.replicate_zero,List.push_toArray,List.append_toArray,List.nil_append,List.cons_append]
 apply wpS_seq
 apply wpS_region
 simp [wpOpsS,go_sem,recoverD,hu,Exit.thenS,ta_nil]
 apply wpS_of_wp
 go_wp2_with fail
 exact ⟨rfl,.returning,congrArg (· :: cs) (frame_same c₀ _ hu),_,results_none rfl _ _ _,rfl,rfl,below_box _ _⟩
/-- what the deferred function leaves: the zero value and the error -/
def Caught (B b b2 : Nat) (c : Int) (w : World) (e : Ending) (u' : FrameMode) (w' : World) : Prop :=
 u' = .panicking [{ v:=.iface 133 (.agg #[.int .i64 c]),recovered:=true }] ∧ e = .returned (.tuple #[]) ∧ Below B w w' ∧
 w'.cell? ⟨b,0,none⟩ = some (.int .i64 0) ∧ w'.cell? ⟨b,1,none⟩ = some (.int .i64 0) ∧ w'.cell? ⟨b,2,none⟩ = some (.int .u64 0) ∧ w'.cell? ⟨b,3,none⟩ = some (.string ⟨#[]⟩) ∧
 w'.cell? ⟨b2,0,none⟩ = some (.int .i64 c)
set_option maxHeartbeats 2000000 in
set_option maxRecDepth 100000 in
theorem caught_pan (B b b2 : Nat) (c : Int) (w : World) (v0 v1 v2 v3 v4 : Value) (hB : B ≤ b) (hb2 : b < b2) (hbw : b < w.heap.size) (hbw2 : b2 < w.heap.size)
  (c0 : w.cell? ⟨b,0,none⟩ = some v0) (c1 : w.cell? ⟨b,1,none⟩ = some v1) (c2 : w.cell? ⟨b,2,none⟩ = some v2) (c3 : w.cell? ⟨b,3,none⟩ = some v3) (c4 : w.cell? ⟨b2,0,none⟩ = some v4)
  (f0 : w.frozen? ⟨b,0,none⟩ = false) (f1 : w.frozen? ⟨b,1,none⟩ = false) (f2 : w.frozen? ⟨b,2,none⟩ = false) (f3 : w.frozen? ⟨b,3,none⟩ = false) (f4 : w.frozen? ⟨b2,0,none⟩ = false) :
  CallsD Tryz.prog 96 #[.pointer (some ⟨b,0,none⟩),.pointer (some ⟨b2,0,none⟩)] (.panicking (flt c)) w (Caught B b b2 c w):=by
 refine callsD_of_wpS Tryz.func96 rfl fun c₀ cs hu=>?_
 have hbb : ¬ b = b2:=by omega
 have hbb' : ¬ b2 = b:=by omega
 have hn1 : ¬ w.heap.size = b:=by omega
 have hn2 : ¬ w.heap.size = b2:=by omega
 simp only [Tryz.ntmps96,List.size_toArray,List.length_cons,List.length_nil,Nat.reduceAdd,Nat.reduceSub,Array.replicate_succ,Array.replicate_zero,List.push_toArray,List.append_toArray,List.nil_append,List.cons_append]
 apply wpS_seq
 apply wpS_region
 simp [wpOpsS,go_sem,recoverD,hu,Exit.thenS,flt,ta_flt]
 apply wpS_of_wp
 go_wp2_with fail
 go_region
 clear hu
 refine ⟨rfl,.panicking [{ v:=.iface 133 (.agg #[.int .i64 c]),recovered:=true }],rfl,_,results_none rfl _ _ _,rfl,rfl, ?_, ?_, ?_, ?_, ?_, ?_⟩
 rotate_left
 ·simp [go_sem, *]
 ·simp [go_sem, *]
 ·simp [go_sem, *]
 ·simp [go_sem, *]
 ·simp [go_sem, *]
 repeat (first | (with_reducible exact Below.refl _ _) | (with_reducible refine below_sc ?_ ?_ _;· (first | (simp;done) | (simp;omega) | omega)) | (with_reducible refine Below.drew ?_) | (with_reducible refine below_al2 ?_ ?_ _;· (first | omega | (simp;done) | (simp;omega))))
set_option maxHeartbeats 2000000 in
set_option maxRecDepth 100000 in
theorem caught1_c (cap : Array Value) (r : Except Int V) (w : World) (hcall : ∀ w1,Below w.heap.size w w1 → Calls Tryz.prog 59 cap w1 (OutV r w1)) :
  Calls Tryz.prog 58 #[.func (.func 59) #[] cap] w fun e w'=>e = .returned (.tuple #[.agg #[.int .i64 (resV r).1.k,.int .i64 (resV r).1.n,.int .u64 (resV r).1.f,.string (resV r).1.t],.int .i64 (resV r).2]) ∧ Below w.heap.size w w':=by
 have HC:=Lib.hid hcall;clear hcall
 have hmf : ∀ (fn : Fn) (first cap : Array Value) (w : World),(Instr.makeFunc fn first cap).run Tryz.prog w = .ok (.func fn first cap) w:=fun _ _ _ _=>rfl
 go_enter_defers Tryz.func58,Tryz.ntmps58
 go_wp2_with (go_at_call 59;refine (HC.out _ (by repeat (first | (with_reducible exact Below.refl _ _) | (with_reducible refine below_al ?_ _) | (with_reducible refine below_drewN ?_ _) | (with_reducible refine Below.drew ?_) | (with_reducible refine below_via (by assumption) ?_) | (with_reducible refine below_sc ?_ ?_ _;· (first | (simp;done) | (simp;omega) | omega))))).mono ?_;rintro e w' h;obtain ⟨⟨rk,rn,rf,rt,hr,rfl⟩ | ⟨rc,hr,rfl⟩,hb⟩:=outV_cases h <;> (clear h;obtain ⟨hc,hf⟩:=bcell hb;(try (have hz0 : w.heap.size < w'.heap.size:=(by have:=hb.size;(try simp at this);omega)));(try (have hz1 : w.heap.size + 1 < w'.heap.size:=(by have:=hb.size;(try simp at this);omega)));(try (have hz2 : w.heap.size + 2 < w'.heap.size:=(by have:=hb.size;(try simp at this);omega)));(try (have hz3 : w.heap.size + 3 < w'.heap.size:=(by have:=hb.size;(try simp at this);omega)))))
 ·subst hr
  have k0 : w'.cell? ⟨w.heap.size,0,none⟩ = some (.int .i64 0):=by rw [hc _ _ (by simp;try omega)];simp [go_sem]
  have k1 : w'.cell? ⟨w.heap.size,1,none⟩ = some (.int .i64 0):=by rw [hc _ _ (by simp;try omega)];simp [go_sem]
  have k2 : w'.cell? ⟨w.heap.size,2,none⟩ = some (.int .u64 0):=by rw [hc _ _ (by simp;try omega)];simp [go_sem]
  have k3 : w'.cell? ⟨w.heap.size,3,none⟩ = some (.string ⟨#[]⟩):=by rw [hc _ _ (by simp;try omega)];simp [go_sem]
  have k4 : w'.cell? ⟨w.heap.size + 1,0,none⟩ = some (.int .i64 0):=by rw [hc _ _ (by simp;try omega)];simp [go_sem]
  have HC2:=Lib.hid hc;clear hc
  refine leaves_cons (f:=96) (args:=#[.pointer (some ⟨w.heap.size,0,none⟩),.pointer (some ⟨w.heap.size + 1,0,none⟩)]) (by simp) (by simp [go_sem]) ?_
  refine (caught_ret _ _ _).mono ?_
  rintro e u' w'' ⟨rfl,rfl,hb2⟩
  obtain ⟨hc2,hf2⟩:=bcell hb2
  have m0 : w''.cell? ⟨w.heap.size,0,none⟩ = some (.int .i64 rk):=by rw [hc2 _ _ (by simp;omega)];simp [go_sem,k0,k1,k2,k3,k4]
  have m1 : w''.cell? ⟨w.heap.size,1,none⟩ = some (.int .i64 rn):=by rw [hc2 _ _ (by simp;omega)];simp [go_sem,k0,k1,k2,k3,k4]
  have m2 : w''.cell? ⟨w.heap.size,2,none⟩ = some (.int .u64 rf):=by rw [hc2 _ _ (by simp;omega)];simp [go_sem,k0,k1,k2,k3,k4]
  have m3 : w''.cell? ⟨w.heap.size,3,none⟩ = some (.string rt):=by rw [hc2 _ _ (by simp;omega)];simp [go_sem,k0,k1,k2,k3,k4]
  have m4 : w''.cell? ⟨w.heap.size + 1,0,none⟩ = some (.int .i64 0):=by rw [hc2 _ _ (by simp;omega)];simp [go_sem,k0,k1,k2,k3,k4]
  clear hc2 hf2
  exact ⟨.tuple #[.agg #[.int .i64 rk,.int .i64 rn,.int .u64 rf,.string rt],.int .i64 0],by simp [results,Tryz.results58,go_sem,m0,m1,m2,m3,m4],rfl,(by repeat (first | (with_reducible exact Below.refl _ _) | (with_reducible refine below_al ?_ _) | (with_reducible refine below_drewN ?_ _) | (with_reducible refine Below.drew ?_) | (with_reducible refine below_via (by assumption) ?_) | (with_reducible refine below_sc ?_ ?_ _;· (first | (simp;done) | (simp;omega) | omega))))⟩
 ·subst hr
  have k0 : w'.cell? ⟨w.heap.size,0,none⟩ = some (.int .i64 0):=by rw [hc _ _ (by simp;try omega)];simp [go_sem]
  have k1 : w'.cell? ⟨w.heap.size,1,none⟩ = some (.int .i64 0):=by rw [hc _ _ (by simp;try omega)];simp [go_sem]
  have k2 : w'.cell? ⟨w.heap.size,2,none⟩ = some (.int .u64 0):=by rw [hc _ _ (by simp;try omega)];simp [go_sem]
  have k3 : w'.cell? ⟨w.heap.size,3,none⟩ = some (.string ⟨#[]⟩):=by rw [hc _ _ (by simp;try omega)];simp [go_sem]
  have k4 : w'.cell? ⟨w.heap.size + 1,0,none⟩ = some (.int .i64 0):=by rw [hc _ _ (by simp;try omega)];simp [go_sem]
  have HC2:=Lib.hid hc;clear hc
  refine leaves_cons (f:=96) (args:=#[.pointer (some ⟨w.heap.size,0,none⟩),.pointer (some ⟨w.heap.size + 1,0,none⟩)]) (by simp [flt]) (by simp [go_sem]) ?_
  refine (caught_pan w.heap.size w.heap.size (w.heap.size + 1) rc _ (.int .i64 0) (.int .i64 0) (.int .u64 0) (.string ⟨#[]⟩) (.int .i64 0) (Nat.le_refl _) (by omega) (by omega) (by omega) k0 k1 k2 k3 k4 (by rw [hf _ _ (by simp;try omega)];simp [go_sem]) (by rw [hf _ _ (by simp;try omega)];simp [go_sem]) (by rw [hf _ _ (by simp;try omega)];simp [go_sem]) (by rw [hf _ _ (by simp;try omega)];simp [go_sem]) (by rw [hf _ _ (by simp;try omega)];simp [go_sem])).mono ?_
  rintro e u' w'' ⟨rfl,rfl,hb2,d0,d1,d2,d3,d4⟩
  exact ⟨.tuple #[.agg #[.int .i64 0,.int .i64 0,.int .u64 0,.string ⟨#[]⟩],.int .i64 rc],by simp [results,Tryz.results58,go_sem,d0,d1,d2,d3,d4],rfl,Below.trans (by repeat (first | (with_reducible exact Below.refl _ _) | (with_reducible refine below_al ?_ _) | (with_reducible refine below_drewN ?_ _) | (with_reducible refine Below.drew ?_) | (with_reducible refine below_via (by assumption) ?_) | (with_reducible refine below_sc ?_ ?_ _;· (first | (simp;done) | (simp;omega) | omega)))) hb2⟩
set_option maxHeartbeats 2000000 in
set_option maxRecDepth 100000 in
theorem caught2_c (cap : Array Value) (r : Except Int V) (w : World) (hcall : ∀ w1,Below w.heap.size w w1 → Calls Tryz.prog 61 cap w1 (OutV r w1)) :
  Calls Tryz.prog 58 #[.func (.func 61) #[] cap] w fun e w'=>e = .returned (.tuple #[.agg #[.int .i64 (resV r).1.k,.int .i64 (resV r).1.n,.int .u64 (resV r).1.f,.string (resV r).1.t],.int .i64 (resV r).2]) ∧ Below w.heap.size w w':=by
 have HC:=Lib.hid hcall;clear hcall
 have hmf : ∀ (fn : Fn) (first cap : Array Value) (w : World),(Instr.makeFunc fn first cap).run Tryz.prog w = .ok (.func fn first cap) w:=fun _ _ _ _=>rfl
 go_enter_defers Tryz.func58,Tryz.ntmps58
 go_wp2_with (go_at_call 61;refine (HC.out _ (by repeat (first | (with_reducible exact Below.refl _ _) | (with_reducible refine below_al ?_ _) | (with_reducible refine below_drewN ?_ _) | (with_reducible refine Below.drew ?_) | (with_reducible refine below_via (by assumption) ?_) | (with_reducible refine below_sc ?_ ?_ _;· (first | (simp;done) | (simp;omega) | omega))))).mono ?_;rintro e w' h;obtain ⟨⟨rk,rn,rf,rt,hr,rfl⟩ | ⟨rc,hr,rfl⟩,hb⟩:=outV_cases h <;> (clear h;obtain ⟨hc,hf⟩:=bcell hb;(try (have hz0 : w.heap.size < w'.heap.size:=(by have:=hb.size;(try simp at this);omega)));(try (have hz1 : w.heap.size + 1 < w'.heap.size:=(by have:=hb.size;(try simp at this);omega)));(try (have hz2 : w.heap.size + 2 < w'.heap.size:=(by have:=hb.size;(try simp at this);omega)));(try (have hz3 : w.heap.size + 3 < w'.heap.size:=(by have:=hb.size;(try simp at this);omega)))))
 ·subst hr
  have k0 : w'.cell? ⟨w.heap.size,0,none⟩ = some (.int .i64 0):=by rw [hc _ _ (by simp;try omega)];simp [go_sem]
  have k1 : w'.cell? ⟨w.heap.size,1,none⟩ = some (.int .i64 0):=by rw [hc _ _ (by simp;try omega)];simp [go_sem]
  have k2 : w'.cell? ⟨w.heap.size,2,none⟩ = some (.int .u64 0):=by rw [hc _ _ (by simp;try omega)];simp [go_sem]
  have k3 : w'.cell? ⟨w.heap.size,3,none⟩ = some (.string ⟨#[]⟩):=by rw [hc _ _ (by simp;try omega)];simp [go_sem]
  have k4 : w'.cell? ⟨w.heap.size + 1,0,none⟩ = some (.int .i64 0):=by rw [hc _ _ (by simp;try omega)];simp [go_sem]
  have HC2:=Lib.hid hc;clear hc
  refine leaves_cons (f:=96) (args:=#[.pointer (some ⟨w.heap.size,0,none⟩),.pointer (some ⟨w.heap.size + 1,0,none⟩)]) (by simp) (by simp [go_sem]) ?_
  refine (caught_ret _ _ _).mono ?_
  rintro e u' w'' ⟨rfl,rfl,hb2⟩
  obtain ⟨hc2,hf2⟩:=bcell hb2
  have m0 : w''.cell? ⟨w.heap.size,0,none⟩ = some (.int .i64 rk):=by rw [hc2 _ _ (by simp;omega)];simp [go_sem,k0,k1,k2,k3,k4]
  have m1 : w''.cell? ⟨w.heap.size,1,none⟩ = some (.int .i64 rn):=by rw [hc2 _ _ (by simp;omega)];simp [go_sem,k0,k1,k2,k3,k4]
  have m2 : w''.cell? ⟨w.heap.size,2,none⟩ = some (.int .u64 rf):=by rw [hc2 _ _ (by simp;omega)];simp [go_sem,k0,k1,k2,k3,k4]
  have m3 : w''.cell? ⟨w.heap.size,3,none⟩ = some (.string rt):=by rw [hc2 _ _ (by simp;omega)];simp [go_sem,k0,k1,k2,k3,k4]
  have m4 : w''.cell? ⟨w.heap.size + 1,0,none⟩ = some (.int .i64 0):=by rw [hc2 _ _ (by simp;omega)];simp [go_sem,k0,k1,k2,k3,k4]
  clear hc2 hf2
  exact ⟨.tuple #[.agg #[.int .i64 rk,.int .i64 rn,.int .u64 rf,.string rt],.int .i64 0],by simp [results,Tryz.results58,go_sem,m0,m1,m2,m3,m4],rfl,(by repeat (first | (with_reducible exact Below.refl _ _) | (with_reducible refine below_al ?_ _) | (with_reducible refine below_drewN ?_ _) | (with_reducible refine Below.drew ?_) | (with_reducible refine below_via (by assumption) ?_) | (with_reducible refine below_sc ?_ ?_ _;· (first | (simp;done) | (simp;omega) | omega))))⟩
 ·subst hr
  have k0 : w'.cell? ⟨w.heap.size,0,none⟩ = some (.int .i64 0):=by rw [hc _ _ (by simp;try omega)];simp [go_sem]
  have k1 : w'.cell? ⟨w.heap.size,1,none⟩ = some (.int .i64 0):=by rw [hc _ _ (by simp;try omega)];simp [go_sem]
  have k2 : w'.cell? ⟨w.heap.size,2,none⟩ = some (.int .u64 0):=by rw [hc _ _ (by simp;try omega)];simp [go_sem]
  have k3 : w'.cell? ⟨w.heap.size,3,none⟩ = some (.string ⟨#[]⟩):=by rw [hc _ _ (by simp;try omega)];simp [go_sem]
  have k4 : w'.cell? ⟨w.heap.size + 1,0,none⟩ = some (.int .i64 0):=by rw [hc _ _ (by simp;try omega)];simp [go_sem]
  have HC2:=Lib.hid hc;clear hc
  refine leaves_cons (f:=96) (args:=#[.pointer (some ⟨w.heap.size,0,none⟩),.pointer (some ⟨w.heap.size + 1,0,none⟩)]) (by simp [flt]) (by simp [go_sem]) ?_
  refine (caught_pan w.heap.size w.heap.size (w.heap.size + 1) rc _ (.int .i64 0) (.int .i64 0) (.int .u64 0) (.string ⟨#[]⟩) (.int .i64 0) (Nat.le_refl _) (by omega) (by omega) (by omega) k0 k1 k2 k3 k4 (by rw [hf _ _ (by simp;try omega)];simp [go_sem]) (by rw [hf _ _ (by simp;try omega)];simp [go_sem]) (by rw [hf _ _ (by simp;try omega)];simp [go_sem]) (by rw [hf _ _ (by simp;try omega)];simp [go_sem]) (by rw [hf _ _ (by simp;try omega)];simp [go_sem])).mono ?_
  rintro e u' w'' ⟨rfl,rfl,hb2,d0,d1,d2,d3,d4⟩
  exact ⟨.tuple #[.agg #[.int .i64 0,.int .i64 0,.int .u64 0,.string ⟨#[]⟩],.int .i64 rc],by simp [results,Tryz.results58,go_sem,d0,d1,d2,d3,d4],rfl,Below.trans (by repeat (first | (with_reducible exact Below.refl _ _) | (with_reducible refine below_al ?_ _) | (with_reducible refine below_drewN ?_ _) | (with_reducible refine Below.drew ?_) | (with_reducible refine below_via (by assumption) ?_) | (with_reducible refine below_sc ?_ ?_ _;· (first | (simp;done) | (simp;omega) | omega)))) hb2⟩
/-- a door's answer -/
def OutD (r : Except Int V) (w : World) (e : Ending) (w' : World) : Prop :=
 e = .returned (.tuple #[.agg #[.int .i64 (resV r).1.k,.int .i64 (resV r).1.n,.int .u64 (resV r).1.f,.string (resV r).1.t],.int .i64 (resV r).2]) ∧ Below w.heap.size w w'
set_option maxRecDepth 100000 in
set_option maxHeartbeats 2000000 in
theorem oneF_c (b1 b2 b3 : Nat) (code kind k n f : Int) (t : ByteArray) (w : World) (hn : I64 n) (ht : Tab w)
  (c1 : w.cell? ⟨b1,0,none⟩ = some (.int .i64 code)) (c2 : w.cell? ⟨b2,0,none⟩ = some (.int .i64 kind)) (d0 : w.cell? ⟨b3,0,none⟩ = some (.int .i64 k)) (d1 : w.cell? ⟨b3,1,none⟩ = some (.int .i64 n)) (d2 : w.cell? ⟨b3,2,none⟩ = some (.int .u64 f)) (d3 : w.cell? ⟨b3,3,none⟩ = some (.string t)) :
  Calls Tryz.prog 59 #[.pointer (some ⟨b1,0,none⟩),.pointer (some ⟨b2,0,none⟩),.pointer (some ⟨b3,0,none⟩)] w (OutV (oneS code kind k n f t) w):=by
 have l1:=World.block_lt_of_cell? w _ c1
 have l2:=World.block_lt_of_cell? w _ c2
 have l3:=World.block_lt_of_cell? w _ d0
 simp only at l1 l2 l3
 go_enter Tryz.func59,Tryz.ntmps59
 go_wp2_with (go_at_call 60;refine (one_c _ _ _ _ _ _ _ hn (ht.below (by repeat (first | (with_reducible exact Below.refl _ _) | (with_reducible refine below_al ?_ _) | (with_reducible refine below_drewN ?_ _) | (with_reducible refine Below.drew ?_) | (with_reducible refine below_via (by assumption) ?_) | (with_reducible refine below_sc ?_ ?_ _;· (first | (simp;done) | (simp;omega) | omega)))))).mono ?_;rintro e w' h;obtain ⟨⟨rk,rn,rf,rt,hr,rfl⟩ | ⟨rc,hr,rfl⟩,hb⟩:=outV_cases h <;> (clear h;(try (replace hb:=below_undrew hb));(try (replace hb:=below_undrewN hb));obtain ⟨hc,hf⟩:=bcell hb;(try (have hz0 : w.heap.size < w'.heap.size:=(by have:=hb.size;(try simp at this);omega)));(try (have hz1 : w.heap.size + 1 < w'.heap.size:=(by have:=hb.size;(try simp at this);omega)));(try (have hz2 : w.heap.size + 2 < w'.heap.size:=(by have:=hb.size;(try simp at this);omega)));(try (have hz3 : w.heap.size + 3 < w'.heap.size:=(by have:=hb.size;(try simp at this);omega)))))
 ·(exact bodyPost_ret (v:=.agg #[.int .i64 (rk),.int .i64 (rn),.int .u64 (rf),.string (rt)]) (by simp [results,Tryz.results59,go_sem, *]) rfl (outV_ret (x:=⟨rk,rn,rf,rt⟩) (by first | exact hr | rfl) (by repeat (first | (with_reducible exact Below.refl _ _) | (with_reducible refine below_al ?_ _) | (with_reducible refine below_drewN ?_ _) | (with_reducible refine Below.drew ?_) | (with_reducible refine below_via (by assumption) ?_) | (with_reducible refine below_sc ?_ ?_ _;· (first | (simp;done) | (simp;omega) | omega))))))
 ·(exact ⟨rfl,outV_pan (by first | exact hr | rfl) (by repeat (first | (with_reducible exact Below.refl _ _) | (with_reducible refine below_al ?_ _) | (with_reducible refine below_drewN ?_ _) | (with_reducible refine Below.drew ?_) | (with_reducible refine below_via (by assumption) ?_) | (with_reducible refine below_sc ?_ ?_ _;· (first | (simp;done) | (simp;omega) | omega))))⟩)
set_option maxRecDepth 100000 in
set_option maxHeartbeats 2000000 in
theorem oneD_c (code kind k n f : Int) (t : ByteArray) (w : World) (hn : I64 n) (ht : Tab w) :
  Calls Tryz.prog 33 #[.int .i64 code,.int .i64 kind,.agg #[.int .i64 k,.int .i64 n,.int .u64 f,.string t]] w (OutD (oneS code kind k n f t) w):=by
 have hmf : ∀ (fn : Fn) (first cap : Array Value) (w : World),(Instr.makeFunc fn first cap).run Tryz.prog w = .ok (.func fn first cap) w:=fun _ _ _ _=>rfl
 go_enter Tryz.func33,Tryz.ntmps33
 go_wp2_with fail
 refine (caught1_c _ (oneS code kind k n f t) _ ?_).mono ?_
 ·intro w1 hb
  obtain ⟨hc,hf⟩:=bcell hb
  exact oneF_c _ _ _ _ _ _ _ _ _ _ hn (ht.below (by repeat (first | (with_reducible exact Below.refl _ _) | (with_reducible refine below_al ?_ _) | (with_reducible refine below_drewN ?_ _) | (with_reducible refine Below.drew ?_) | (with_reducible refine below_via (by assumption) ?_) | (with_reducible refine below_sc ?_ ?_ _;· (first | (simp;done) | (simp;omega) | omega))))) (by rw [hc _ _ (by simp;try omega)];simp [go_sem]) (by rw [hc _ _ (by simp;try omega)];simp [go_sem]) (by rw [hc _ _ (by simp;try omega)];simp [go_sem]) (by rw [hc _ _ (by simp;try omega)];simp [go_sem]) (by rw [hc _ _ (by simp;try omega)];simp [go_sem]) (by rw [hc _ _ (by simp;try omega)];simp [go_sem])
 ·rintro e w' ⟨rfl,hb⟩
  obtain ⟨hc,hf⟩:=bcell hb
  generalize oneS code kind k n f t = r at *
  go_wp2_with fail
  exact bodyPost_ret (v:=.tuple #[.agg #[.int .i64 (resV r).1.k,.int .i64 (resV r).1.n,.int .u64 (resV r).1.f,.string (resV r).1.t],.int .i64 (resV r).2]) (by simp [results,Tryz.results33,go_sem, *]) rfl ⟨rfl,(by repeat (first | (with_reducible exact Below.refl _ _) | (with_reducible refine below_al ?_ _) | (with_reducible refine below_drewN ?_ _) | (with_reducible refine Below.drew ?_) | (with_reducible refine below_via (by assumption) ?_) | (with_reducible refine below_sc ?_ ?_ _;· (first | (simp;done) | (simp;omega) | omega))))⟩
set_option maxRecDepth 100000 in
set_option maxHeartbeats 2000000 in
theorem twoF_c (b1 b2 b3 : Nat) (code k n f : Int) (t : ByteArray) (k' n' f' : Int) (t' : ByteArray) (w : World) (hn : I64 n) (hn' : I64 n')
  (c1 : w.cell? ⟨b1,0,none⟩ = some (.int .i64 code)) (a0 : w.cell? ⟨b2,0,none⟩ = some (.int .i64 k)) (a1 : w.cell? ⟨b2,1,none⟩ = some (.int .i64 n)) (a2 : w.cell? ⟨b2,2,none⟩ = some (.int .u64 f)) (a3 : w.cell? ⟨b2,3,none⟩ = some (.string t))
  (d0 : w.cell? ⟨b3,0,none⟩ = some (.int .i64 k')) (d1 : w.cell? ⟨b3,1,none⟩ = some (.int .i64 n')) (d2 : w.cell? ⟨b3,2,none⟩ = some (.int .u64 f')) (d3 : w.cell? ⟨b3,3,none⟩ = some (.string t')) :
  Calls Tryz.prog 61 #[.pointer (some ⟨b1,0,none⟩),.pointer (some ⟨b2,0,none⟩),.pointer (some ⟨b3,0,none⟩)] w (OutV (twoS code k n f t k' n' f' t') w):=by
 have l1:=World.block_lt_of_cell? w _ c1
 have l2:=World.block_lt_of_cell? w _ a0
 have l3:=World.block_lt_of_cell? w _ d0
 simp only at l1 l2 l3
 go_enter Tryz.func61,Tryz.ntmps61
 go_wp2_with (go_at_call 62;refine (two_c _ _ _ _ _ _ _ _ _ _ hn hn').mono ?_;rintro e w' h;obtain ⟨⟨rk,rn,rf,rt,hr,rfl⟩ | ⟨rc,hr,rfl⟩,hb⟩:=outV_cases h <;> (clear h;(try (replace hb:=below_undrew hb));(try (replace hb:=below_undrewN hb));obtain ⟨hc,hf⟩:=bcell hb;(try (have hz0 : w.heap.size < w'.heap.size:=(by have:=hb.size;(try simp at this);omega)));(try (have hz1 : w.heap.size + 1 < w'.heap.size:=(by have:=hb.size;(try simp at this);omega)));(try (have hz2 : w.heap.size + 2 < w'.heap.size:=(by have:=hb.size;(try simp at this);omega)));(try (have hz3 : w.heap.size + 3 < w'.heap.size:=(by have:=hb.size;(try simp at this);omega)))))
 ·(exact bodyPost_ret (v:=.agg #[.int .i64 (rk),.int .i64 (rn),.int .u64 (rf),.string (rt)]) (by simp [results,Tryz.results61,go_sem, *]) rfl (outV_ret (x:=⟨rk,rn,rf,rt⟩) (by first | exact hr | rfl) (by repeat (first | (with_reducible exact Below.refl _ _) | (with_reducible refine below_al ?_ _) | (with_reducible refine below_drewN ?_ _) | (with_reducible refine Below.drew ?_) | (with_reducible refine below_via (by assumption) ?_) | (with_reducible refine below_sc ?_ ?_ _;· (first | (simp;done) | (simp;omega) | omega))))))
 ·(exact ⟨rfl,outV_pan (by first | exact hr | rfl) (by repeat (first | (with_reducible exact Below.refl _ _) | (with_reducible refine below_al ?_ _) | (with_reducible refine below_drewN ?_ _) | (with_reducible refine Below.drew ?_) | (with_reducible refine below_via (by assumption) ?_) | (with_reducible refine below_sc ?_ ?_ _;· (first | (simp;done) | (simp;omega) | omega))))⟩)
set_option maxRecDepth 100000 in
set_option maxHeartbeats 2000000 in
theorem twoD_c (code k n f : Int) (t : ByteArray) (k' n' f' : Int) (t' : ByteArray) (w : World) (hn : I64 n) (hn' : I64 n') :
  Calls Tryz.prog 36 #[.int .i64 code,.agg #[.int .i64 k,.int .i64 n,.int .u64 f,.string t],.agg #[.int .i64 k',.int .i64 n',.int .u64 f',.string t']] w (OutD (twoS code k n f t k' n' f' t') w):=by
 have hmf : ∀ (fn : Fn) (first cap : Array Value) (w : World),(Instr.makeFunc fn first cap).run Tryz.prog w = .ok (.func fn first cap) w:=fun _ _ _ _=>rfl
 go_enter Tryz.func36,Tryz.ntmps36
 go_wp2_with fail
 refine (caught2_c _ (twoS code k n f t k' n' f' t') _ ?_).mono ?_
 ·intro w1 hb
  obtain ⟨hc,hf⟩:=bcell hb
  exact twoF_c _ _ _ _ _ _ _ _ _ _ _ _ _ hn hn' (by rw [hc _ _ (by simp;try omega)];simp [go_sem]) (by rw [hc _ _ (by simp;try omega)];simp [go_sem]) (by rw [hc _ _ (by simp;try omega)];simp [go_sem]) (by rw [hc _ _ (by simp;try omega)];simp [go_sem]) (by rw [hc _ _ (by simp;try omega)];simp [go_sem]) (by rw [hc _ _ (by simp;try omega)];simp [go_sem]) (by rw [hc _ _ (by simp;try omega)];simp [go_sem]) (by rw [hc _ _ (by simp;try omega)];simp [go_sem]) (by rw [hc _ _ (by simp;try omega)];simp [go_sem])
 ·rintro e w' ⟨rfl,hb⟩
  obtain ⟨hc,hf⟩:=bcell hb
  generalize twoS code k n f t k' n' f' t' = r at *
  go_wp2_with fail
  exact bodyPost_ret (v:=.tuple #[.agg #[.int .i64 (resV r).1.k,.int .i64 (resV r).1.n,.int .u64 (resV r).1.f,.string (resV r).1.t],.int .i64 (resV r).2]) (by simp [results,Tryz.results36,go_sem, *]) rfl ⟨rfl,(by repeat (first | (with_reducible exact Below.refl _ _) | (with_reducible refine below_al ?_ _) | (with_reducible refine below_drewN ?_ _) | (with_reducible refine Below.drew ?_) | (with_reducible refine below_via (by assumption) ?_) | (with_reducible refine below_sc ?_ ?_ _;· (first | (simp;done) | (simp;omega) | omega))))⟩
end Go.Proofs.YtakcjiinchghaaaGreatDoor
end
section
namespace Go.Proofs.YtakcjiinchghaaaGreatDoor
set_option linter.unusedVariables false
set_option linter.unusedSimpArgs false
open Go.RowKit
def sV (x : V) : Bool:=soundV x.k x.n x.f x.t
theorem sound_null : soundV 0 0 0 ⟨#[]⟩ = true:=by kernel_rfl
theorem sound_bool (b : Bool) : soundV 1 (b2i b) 0 ⟨#[]⟩ = true:=by cases b <;> kernel_rfl
theorem sound_int (n : Int) : soundV 2 n 0 ⟨#[]⟩ = true:=by simp [soundV,eqV]
theorem sound_float (b : Int) : soundV 3 0 (plainI b) ⟨#[]⟩ = true:=by simp [soundV,eqV,plain_idem]
theorem sound_txt (t : ByteArray) (h : t.size ≤ 4096) : soundV 4 0 0 t = true:=by simp [soundV,eqV,h]
theorem intF_I64 {x : Nat} {m : Int} (h : intF x = some m) : I64 m:=by
 unfold intF at h
 split at h
 ·split at h
  ·cases h;assumption
  ·cases h
 ·cases h
/-- an answer is a value, or one of these refusals -/
def Cl (l : List Int) (r : Except Int V) : Prop:=match r with | .ok x=>sV x = true ∧ I64 x.n | .error c=>c ∈ l
theorem fRes_plain (r : Option Nat) : plainI (fRes r) = fRes r:=by
 cases r with
 | none=>decide +kernel
 | some x=>exact plain_idem
theorem fitI_cases (x : Int) : (fitI x = .ok x ∧ I64 x) ∨ fitI x = .error 11:=by
 unfold fitI;split
 ·left;exact ⟨rfl,by assumption⟩
 ·right;rfl
theorem i64_0 : I64 0:=⟨by decide,by decide⟩
theorem i64_b (b : Bool) : I64 (b2i b):=by cases b <;> exact ⟨by decide,by decide⟩
theorem castS_cl (k n f : Int) (t : ByteArray) (kind : Int) (hn : I64 n) (h : soundV k n f t = true) : Cl [1,11] (castS k n f t kind):=by
 unfold castS
 split
 ·exact ⟨h,hn⟩
 ·split
  ·exact ⟨sound_float _,i64_0⟩
  ·split
   ·split
    ·rename_i m hm;exact ⟨sound_int _,intF_I64 hm⟩
    ·simp [Cl]
   ·split
    ·refine ⟨sound_txt _ ?_,i64_0⟩
     rw [size_mk];have:=Lib.itoa_length_le n hn.1 hn.2;omega
    ·split
     ·refine ⟨sound_txt _ ?_,i64_0⟩
      rw [size_mk];cases (n == 1) <;> decide
     ·simp [Cl]
theorem negS_cl (k n f : Int) (hn : I64 n) : Cl [1,11] (negS k n f):=by
 obtain ⟨h1,h2⟩:=hn
 unfold negS
 split
 ·split
  ·simp [Cl]
  ·rename_i h;simp at h;exact ⟨sound_int _,by show -9223372036854775808 ≤ -n;omega,by show -n ≤ 9223372036854775807;omega⟩
 ·split
  ·exact ⟨sound_float _,i64_0⟩
  ·simp [Cl]
theorem oneS_cl (code kind k n f : Int) (t : ByteArray) (hn : I64 n) : Cl [1,11] (oneS code kind k n f t):=by
 unfold oneS
 split
 ·simp [Cl]
 ·rename_i h;simp only [Bool.not_eq_true',Bool.not_eq_false'] at h
  have h : soundV k n f t = true:=by simpa using h
  split
  ·exact ⟨sound_bool _,i64_b _⟩
  ·split
   ·simp [Cl]
   ·split
    ·exact ⟨h,hn⟩
    ·split
     ·exact castS_cl k n f t kind hn h
     ·split
      ·exact negS_cl k n f hn
      ·split
       ·exact ⟨sound_bool _,i64_b _⟩
       ·simp [Cl]
theorem logicS_cl (code k n f : Int) (t : ByteArray) (k' n' f' : Int) (t' : ByteArray) : Cl [1,11,10,12] (logicS code k n f t k' n' f' t'):=by
 unfold logicS
 split
 ·simp [Cl]
 ·split
  ·exact ⟨sound_bool _,i64_b _⟩
  ·split
   ·exact ⟨sound_null,i64_0⟩
   ·exact ⟨sound_bool _,i64_b _⟩
theorem tmod_I64 {a b : Int} (ha : I64 a) (h0 : b ≠ 0) : I64 (a.tmod b):=by
 obtain ⟨a1,a2⟩:=ha
 have h:=Int.natAbs_tmod a b
 have h2 : a.natAbs % b.natAbs ≤ a.natAbs:=Nat.mod_le _ _
 have h3 : 0 ≤ a → 0 ≤ a.tmod b:=fun h=>Int.tmod_nonneg b h
 constructor
 ·omega
 ·by_cases h4 : 0 ≤ a
  ·omega
  ·have : a.tmod b ≤ 0:=by
    have h5:=Int.tmod_nonneg (a:=-a) b (by omega)
    rw [Int.neg_tmod] at h5;omega
   omega
theorem intsS_cl (code a b : Int) (ha : I64 a) : Cl [1,11,10,12] (addI (intsS code a b)):=by
 have fit : ∀ x,Cl [1,11,10,12] (addI (fitI x)):=fun x=>by
  rcases fitI_cases x with ⟨h,hx⟩ | h
  ·rw [h];exact ⟨sound_int _,hx⟩
  ·rw [h];simp [Cl,addI]
 unfold intsS
 split
 ·exact fit _
 ·split
  ·exact fit _
  ·split
   ·exact fit _
   ·split
    ·simp [Cl,addI]
    ·rename_i hb;simp at hb
     split
     ·exact ⟨sound_int _,tmod_I64 ha hb⟩
     ·exact fit _
theorem twoS_cl (code k n f : Int) (t : ByteArray) (k' n' f' : Int) (t' : ByteArray) (hn : I64 n) (hn' : I64 n') : Cl [1,11,10,12] (twoS code k n f t k' n' f' t'):=by
 unfold twoS
 split
 ·simp [Cl]
 ·rename_i h
  have h : soundV k n f t = true ∧ soundV k' n' f' t' = true:=by
   simp only [Bool.not_eq_true',Bool.and_eq_true,Bool.not_eq_false] at h
   exact ⟨h.1.1.1,h.1.1.2⟩
  split
  ·exact logicS_cl ..
  ·split
   ·simp [Cl]
   ·split
    ·split
     ·exact ⟨h.2,hn'⟩
     ·exact ⟨h.1,hn⟩
    ·split
     ·simp [Cl]
     ·split
      ·exact ⟨sound_null,i64_0⟩
      ·split
       ·exact ⟨sound_bool _,i64_b _⟩
       ·split
        ·unfold textS;split
         ·exact ⟨sound_txt _ (by assumption),i64_0⟩
         ·simp [Cl]
        ·split
         ·exact ⟨by simp [sV,soundV,eqV,floatS,fRes_plain],i64_0⟩
         ·exact intsS_cl code n n' hn
end Go.Proofs.YtakcjiinchghaaaGreatDoor
end
section
namespace Go.Proofs.YtakcjiinchghaaaGreatDoor
set_option linter.unusedVariables false
set_option linter.unusedSimpArgs false
open Go.RowKit
theorem u8_lt (a b : UInt8) : a < b ↔ a.toNat < b.toNat:=UInt8.lt_iff_toNat_lt
theorem u8_eq (a b : UInt8) : a = b ↔ a.toNat = b.toNat:=UInt8.toNat_inj.symm
theorem cb_range : ∀ a b : List UInt8,Lib.compareBytes a b = -1 ∨ Lib.compareBytes a b = 0 ∨ Lib.compareBytes a b = 1
 | [],[]=>by simp [Lib.compareBytes]
 | [],_ :: _=>by simp [Lib.compareBytes]
 | _ :: _,[]=>by simp [Lib.compareBytes]
 | a :: la,b :: lb=>by
  rw [Lib.compareBytes]
  split
  ·simp
  ·split
   ·simp
   ·exact cb_range la lb
theorem cb_same : ∀ a b : List UInt8,Lib.compareBytes a b = 0 ↔ a = b
 | [],[]=>by simp [Lib.compareBytes]
 | [],_ :: _=>by simp [Lib.compareBytes]
 | _ :: _,[]=>by simp [Lib.compareBytes]
 | a :: la,b :: lb=>by
  have ih:=cb_same la lb
  simp only [Lib.compareBytes,u8_lt,List.cons.injEq]
  by_cases h1 : a.toNat < b.toNat
  ·have h2 : a ≠ b:=fun h=>by rw [u8_eq] at h;omega
   simp [h1,h2]
  ·by_cases h2 : b.toNat < a.toNat
   ·have h3 : a ≠ b:=fun h=>by rw [u8_eq] at h;omega
    simp [h1,h2,h3]
   ·have h3 : a = b:=by rw [u8_eq];omega
    simp [h1,h2,h3,ih]
/-- the place of a float among all, a NaN the highest -/
def fkey (x : Nat) : Int:=if fNaN x then 9223372036854775808 else sr x
theorem int_cmp (a b : Int) : compare a b = if a < b then .lt else if a = b then .eq else .gt:=rfl
theorem rung_lt (x : Nat) : rungW x < 9223372036854775808:=Nat.mod_lt _ (by decide)
theorem sr_lt (x : Nat) : -9223372036854775808 < sr x ∧ sr x < 9223372036854775808:=by
 have:=rung_lt x
 unfold sr;split <;> omega
theorem cmpF_key (x y : Nat) : cmpF x y = Lib.compareInt (fkey x) (fkey y):=by
 have lx:=sr_lt x
 have ly:=sr_lt y
 unfold cmpF fkey
 cases hx : fNaN x <;> cases hy : fNaN y
 ·have gx : rungW x ≤ 9218868437227405312:=by have:=nan_rung x;rw [hx] at this;simpa using this.symm
  have gy : rungW y ≤ 9218868437227405312:=by have:=nan_rung y;rw [hy] at this;simpa using this.symm
  have ho : FloatKind.f64.format.order x y = some (compare (sr x) (sr y)):=order_sr gx gy
  rw [ho,int_cmp]
  simp only [Bool.false_and,Bool.false_eq_true,if_false,Lib.compareInt]
  by_cases h1 : sr x < sr y
  ·simp [h1]
  ·by_cases h2 : sr x = sr y
   ·simp [h2]
   ·have h3 : sr x > sr y:=by omega
    simp [h1,h2,h3]
 ·simp [Lib.compareInt];omega
 ·simp [Lib.compareInt];omega
 ·simp [Lib.compareInt]
end Go.Proofs.YtakcjiinchghaaaGreatDoor
end
section
namespace Go.Proofs.YtakcjiinchghaaaGreatDoor
set_option linter.unusedVariables false
set_option linter.unusedSimpArgs false
open Go.RowKit
theorem and63 (b : Int) (h : U64 b) : bits .and .u64 b 9223372036854775807 = b % 9223372036854775808:=bits_mask .u64 64 (by decide) wraps_u64 63 (by decide) b h.1 h.2
theorem fNaN_and (b : Int) (h : U64 b) : decide (9218868437227405312 < bits .and .u64 b 9223372036854775807) = fNaN b:=by
 obtain ⟨h0,h1⟩:=h
 rw [and63 b ⟨h0,h1⟩,fNaN_iff]
 congr 1
 apply propext
 omega
set_option maxRecDepth 100000 in
set_option maxHeartbeats 2000000 in
theorem rIsNaN_c (b : Int) (w : World) (h : U64 b) : Calls Tryz.prog 113 #[.int .u64 b] w fun e w'=>e = .returned (.bool (fNaN b)) ∧ w = w':=by
 have h2:=fNaN_and b h
 go_enter Tryz.func113,Tryz.ntmps113
 go_wp2_with fail
 go_ret
 exact ⟨rfl,rfl⟩
set_option maxRecDepth 100000 in
set_option maxHeartbeats 2000000 in
theorem rPlain_c (b : Int) (w : World) (h : U64 b) : Calls Tryz.prog 111 #[.int .u64 b] w fun e w' => e = .returned (.int .u64 (plainI b)) ∧ w = w' := by
  have hm : fNaN 9223372036854775808 = false := by kernel_rfl
  go_enter Tryz.func111, Tryz.ntmps111
  go_wp2_with (go_at_call 113; refine (rIsNaN_c _ _ h).mono ?_; rintro e w' ⟨rfl, rfl⟩)
  · go_ret; refine ⟨?_, rfl⟩
    have hb : b = 9223372036854775808 := by have : (b == 9223372036854775808) = true := by assumption
                                            simpa using this
    subst hb; rfl
  · go_ret; refine ⟨?_, rfl⟩
    have hN : fNaN b = true := by assumption
    simp only [plainI, hN, if_true]; rfl
  · go_ret; refine ⟨?_, rfl⟩
    have hN : fNaN b = false := by assumption
    have hb : (b == 9223372036854775808) = false := by assumption
    simp only [plainI, hN, hb]; rfl
theorem xor_max (b : Int) (h : U64 b) : bits .xor .u64 IntKind.u64.max b = 18446744073709551615 - b:=by
 obtain ⟨h0,h1⟩:=h
 show IntKind.u64.wrap (((BitVec.ofInt 64 18446744073709551615) ^^^ (BitVec.ofInt 64 b)).toNat : Int) = _
 rw [BitVec.toNat_xor,BitVec.toNat_ofInt,BitVec.toNat_ofInt]
 have e1 : ((18446744073709551615 : Int) % ((2 ^ 64 : Nat) : Int)).toNat = 2 ^ 64 - 1:=by decide
 have e2 : (b % ((2 ^ 64 : Nat) : Int)).toNat = b.toNat:=by
  have : ((2 ^ 64 : Nat) : Int) = 18446744073709551616:=by decide
  omega
 rw [e1,e2,Lib.xor_ones64 _ (by omega),IntKind.wrap_u64]
 omega
def rKey (b : Int) : Int:=if b < 9223372036854775808 then b + 9223372036854775808 else 18446744073709551615 - b
set_option maxRecDepth 100000 in
set_option maxHeartbeats 2000000 in
theorem rKey_c (b : Int) (w : World) (h : U64 b) : Calls Tryz.prog 115 #[.int .u64 b] w fun e w'=>e = .returned (.int .u64 (rKey b)) ∧ w = w':=by
 go_enter Tryz.func115,Tryz.ntmps115
 have hx:=xor_max b h
 go_wp2_with fail
 ·go_ret;refine ⟨?_,rfl⟩
  have hb : (b / 9223372036854775808 == 1) = true:=by assumption
  have hb2 : b / 9223372036854775808 = 1:=by simpa using hb
  have : rKey b = 18446744073709551615 - b:=by unfold rKey;rw [if_neg (by omega)]
  rw [this,← xor_max b (by assumption)];rfl
 ·go_ret;refine ⟨?_,rfl⟩
  have hb : (b / 9223372036854775808 == 1) = false:=by assumption
  have hb2 : ¬ b / 9223372036854775808 = 1:=by simpa using hb
  have hlt : b < 9223372036854775808:=by have:=h.2;omega
  have : rKey b = b + 9223372036854775808:=by unfold rKey;rw [if_pos hlt]
  rw [this,← u64_orv63 b 9223372036854775808 h.1 hlt (by omega) (by omega) (by omega)];rfl
set_option maxRecDepth 100000 in
set_option maxHeartbeats 2000000 in
theorem rSign_c (x y : Bool) (w : World) : Calls Tryz.prog 114 #[.bool x,.bool y] w fun e w'=>e = .returned (.int .i64 (if x then -1 else if y then 1 else 0)) ∧ w = w':=by
 cases x <;> cases y
 all_goals
  go_enter Tryz.func114,Tryz.ntmps114
  go_wp2_with fail
  go_ret
  exact ⟨rfl,rfl⟩
theorem rPlain_q (b : Int) (w : World) (h : U64 b) : Calls Tryz.prog 111 #[.int .u64 b] w fun e w'=>e = .returned (.int .u64 (plainI b)) ∧ w' = w:=(rPlain_c b w h).mono fun _ _ ⟨a,b⟩=>⟨a,b.symm⟩
theorem sound3_f {n f : Int} {t : ByteArray} (h : eqV 3 n f t 3 0 f ⟨#[]⟩ = false) : soundV 3 n f t = false:=by simp [soundV,h]
theorem sound3_t {n f : Int} {t : ByteArray} (h : eqV 3 n f t 3 0 f ⟨#[]⟩ = true) : soundV 3 n f t = (plainI f == f):=by simp [soundV,h]
set_option maxRecDepth 100000 in
set_option maxHeartbeats 2000000 in
theorem rSound_c (k n f : Int) (t : ByteArray) (w : World) (hf : U64 f) :
  Calls Tryz.prog 65 #[.agg #[.int .i64 k,.int .i64 n,.int .u64 f,.string t]] w fun e w'=>e = .returned (.bool (soundV k n f t)) ∧ Below w.heap.size w w':=by
 have h1:=run_eqV
 by_cases h3 : k = 3
 ·subst h3
  cases he : eqV 3 n f t 3 0 f ⟨#[]⟩
  ·rw [sound3_f he]
   go_enter Tryz.func65,Tryz.ntmps65
   go_wp2_with fail
   go_quiet ((go_at_call 111;exact Calls.quiet_of_same (rPlain_q _ _ hf)))
   go_wp2_with fail
   go_ret;exact ⟨rfl,below_box_drewN _ _ _⟩
  ·rw [sound3_t he]
   go_enter Tryz.func65,Tryz.ntmps65
   go_wp2_with fail
   go_quiet ((go_at_call 111;exact Calls.quiet_of_same (rPlain_q _ _ hf)))
   go_wp2_with fail
   go_ret;exact ⟨rfl,below_box_drewN _ _ _⟩
 ·have hk3 : (k == 3) = false:=by simpa using h3
  go_enter Tryz.func65,Tryz.ntmps65
  go_wp2_with fail
  all_goals (clear h1;go_ret;refine ⟨?_,by first | exact below_box _ _ | exact below_box_drewN _ _ _⟩;congr 2;first | (simp [soundV,eqV,cast_le_4096, *];done) | (simp_all [soundV,eqV,cast_le_4096];done) | trace_state)
end Go.Proofs.YtakcjiinchghaaaGreatDoor
end
