/- a part of the claim: what the card leans on, out of the texts PZBx4 (put together by wip/tools/shake.py). -/
import Derived.Test.YthpkjkcfhipjhaaGreatDoorSK1
import Derived.Test.YthpkjkcfhipjhaaGreatDoorSK2
import Derived.Test.YthpkjkcfhipjhaaGreatDoorSK4
import Derived.Test.YthpkjkcfhipjhaaGreatDoorSK5
import Derived.Test.YthpkjkcfhipjhaaGreatDoorSK7
import Derived.Test.YthpkjkcfhipjhaaGreatDoorSK8
import Derived.Test.YthpkjkcfhipjhaaGreatDoorSK13
import Derived.BigQuiet
import Derived.Deep.QuietTactic
import Derived.Test.YthpkjkcfhipjhaaGreatDoorProg
import Derived.Below
import Derived.Deep.Draws
import Derived.Deep.AppendLies
import Derived.Maps.AppendAt
import Derived.OwnWalk
import Derived.Laws.BytesArg
import Derived.Laws.MakeOwn
import Derived.Laws.OwnMore
import Derived.Deep.OwnRows
import Derived.Tactics
import Derived.Lib.ConvBytes
import Derived.Laws.Slices
import Derived.WalkKit
import Derived.KernelRfl
import Derived.RowKit3
import Derived.Deep.LoopGhost
import Derived.WideLaws
import Derived.Deep.DeepCutAuto
import Derived.Deep.CutBlock
import Derived.Deep.RegionHeld3
import Derived.Laws.Rows
import Derived.Lib.AppendStr
import Derived.ArgAppend
import Derived.Laws.IdiomCopy
import Derived.OrdersHeld
import Derived.Laws.BitsLemmas
import Derived.RowKit
section
namespace Go.Proofs.YthpkjkcfhipjhaaGreatDoor.PZB
open Go.RowKit Go.Proofs.YthpkjkcfhipjhaaGreatDoorW.PrintWords Go.Proofs.YthpkjkcfhipjhaaGreatDoorW.PrintLast Go.Proofs.YthpkjkcfhipjhaaGreatDoor.PRW Go.Proofs.YthpkjkcfhipjhaaGreatDoor.PZA Go.Proofs.YthpkjkcfhipjhaaGreatDoor.PZF
set_option linter.unusedVariables false
set_option linter.unusedSimpArgs false
def freshetref03_Show.l0 : Nat → List (S48) → ByteArray → Int → Option (ByteArray)
 | 0,_,_,_=>none
 | k + 1,x0,x3,x4=>if x4 < (x0.length : Int) then (if x4 > 0 then (if x3.size + 1 ≤ 9223372036854775807 then (if 0 ≤ x4 then ((freshetref02_Show.f k ((rd_T48 x0 x4).f0)).bind fun t177=>(if (x3 ++ (⟨#[32]⟩ : ByteArray)).size + t177.size ≤ 9223372036854775807 then (if ((x3 ++ (⟨#[32]⟩ : ByteArray)) ++ t177).size + 1 ≤ 9223372036854775807 then ((xrShow.f 2 ((rd_T48 x0 x4).f1) 0 (⟨#[]⟩ : ByteArray)).bind fun t179=>(if (((x3 ++ (⟨#[32]⟩ : ByteArray)) ++ t177) ++ (⟨#[120]⟩ : ByteArray)).size + t179.size ≤ 9223372036854775807 then (freshetref03_Show.l0 k x0 ((((x3 ++ (⟨#[32]⟩ : ByteArray)) ++ t177) ++ (⟨#[120]⟩ : ByteArray)) ++ t179) (wrap64 (x4 + 1))) else (none))) else (none)) else (none))) else (none)) else (none)) else (if 0 ≤ x4 then ((freshetref02_Show.f k ((rd_T48 x0 x4).f0)).bind fun t181=>(if x3.size + t181.size ≤ 9223372036854775807 then (if (x3 ++ t181).size + 1 ≤ 9223372036854775807 then ((xrShow.f 2 ((rd_T48 x0 x4).f1) 0 (⟨#[]⟩ : ByteArray)).bind fun t183=>(if ((x3 ++ t181) ++ (⟨#[120]⟩ : ByteArray)).size + t183.size ≤ 9223372036854775807 then (freshetref03_Show.l0 k x0 (((x3 ++ t181) ++ (⟨#[120]⟩ : ByteArray)) ++ t183) (wrap64 (x4 + 1))) else (none))) else (none)) else (none))) else (none))) else (some x3)
def freshetref03_Show.f (k : Nat) (l0 : List (S48)) : Option (ByteArray):=(xSound3.f l0).bind fun t175=>(if t175 = true then (freshetref03_Show.l0 k l0 (⟨#[]⟩ : ByteArray) 0) else (some (⟨#[]⟩ : ByteArray)))
theorem freshetref03_Show.mono_l : ∀ k,(∀ y0 y1 y2,LeO (freshetref03_Show.l0 k y0 y1 y2) (freshetref03_Show.l0 (k + 1) y0 y1 y2))
 | 0=>fun _ _ _ r h=>by simp [freshetref03_Show.l0] at h
 | k + 1=>by
  have ih0:=freshetref03_Show.mono_l k
  ·intro y0 y1 y2
   unfold freshetref03_Show.l0
   repeat' first
   | (with_reducible exact ih0 _ _ _)
   | (with_reducible exact freshetref02_Show.mono _ _)
   | (with_reducible exact LeO.refl _)
   | (with_reducible exact LeO.none _)
   | (with_reducible refine LeO.ite ?_ ?_)
   | (with_reducible refine LeO.bind ?_ (fun _=>?_))
   | exact ih0 _ _ _
   | exact freshetref02_Show.mono _ _
   | exact LeO.none _
   | refine LeO.ite ?_ ?_
   | refine LeO.bind ?_ (fun _=>?_)
theorem freshetref03_Show.mono : ∀ a0 k,LeO (freshetref03_Show.f k a0) (freshetref03_Show.f (k + 1) a0):=by
 intro a0 k
 have ih0:=freshetref03_Show.mono_l k
 unfold freshetref03_Show.f
 repeat' first
   | (with_reducible exact ih0 _ _ _)
   | (with_reducible exact freshetref02_Show.mono _ _)
   | (with_reducible exact LeO.refl _)
   | (with_reducible exact LeO.none _)
   | (with_reducible refine LeO.ite ?_ ?_)
   | (with_reducible refine LeO.bind ?_ (fun _=>?_))
   | exact ih0 _ _ _
   | exact freshetref02_Show.mono _ _
   | exact LeO.none _
   | refine LeO.ite ?_ ?_
   | refine LeO.bind ?_ (fun _=>?_)
def freshetref03_Show.T9 : Bool × List (List Nat × List Nat):=(true,[([],[]),([],[]),([],[]),([1,2],[1,2]),([3],[3]),([4],[4]),([5],[5]),([0,6],[0,6]),([7],[7]),([],[]),([],[]),([9,10],[9,10]),([11],[11]),([12],[12]),([13],[13]),([14,6],[14]),([8,15],[8,15]),([16,15,0,1,2,3,4,5,6,7,8,9,10,11,12,13,14,15,16],[0,16])])
def freshetref03_Show.B9 : List Nat:=[0,0,0,6,14,30,62,127,255,0,0,1536,3584,7680,15872,32382,65535,131071]
theorem freshetref03_Show.tab9 : rtab .any (opsOf Tryz.f15 9) = freshetref03_Show.T9:=by kernel_rfl
theorem freshetref03_Show.bits9 : waitsOk freshetref03_Show.T9.2 freshetref03_Show.B9 = true:=by kernel_rfl
set_option maxHeartbeats 8000000 in
set_option maxRecDepth 100000 in
theorem freshetref03_Show.calls (k : Nat) (A0 : Option Addr) (c0 : Nat) (l0 : List (S48)) (r : ByteArray) (w : World) (hr0 : Kd.C k48 w A0 l0.length l0) (hc0 : l0.length ≤ c0) (h : freshetref03_Show.f k l0 = some r) :
  Calls Tryz.prog 15 #[.slice A0 l0.length c0] w fun e w'=>e = .returned (.string r) ∧ Below w.heap.size w w':=by
 have hu64:=Tryz.underlying64
 have HR0:=Aside0.mk hr0
 have HC0:=Aside0.mk hc0
 clear hr0 hc0
 have HB:=Aside0.mk (Below.refl w.heap.size w)
 have H : ((xSound3.f l0).bind fun t175=>(if t175 = true then (freshetref03_Show.l0 k l0 (⟨#[]⟩ : ByteArray) 0) else (some (⟨#[]⟩ : ByteArray)))) = some r:=h
 clear h
 replace H:=Option.bind_eq_some_iff.mp H
 obtain ⟨t175,A20,H⟩:=H
 replace H : (if t175 = true then (freshetref03_Show.l0 k l0 (⟨#[]⟩ : ByteArray) 0) else (some (⟨#[]⟩ : ByteArray))) = some r:=H
 have A2:=Aside0.mk A20
 clear A20
 by_cases c3 : t175 = true
 ·subst c3
  have H1 : (freshetref03_Show.l0 k l0 (⟨#[]⟩ : ByteArray) 0) = some r:=by rw [if_pos rfl] at H;exact H
  clear H
  have H:=H1
  clear H1
  have H':=Aside0.mk H
  clear H
  go_enter Tryz.func15,Tryz.ntmps15
  go_wp2_with (first | ((with_reducible refine gate_callee (f:=13) rfl ?_);refine goesL_ (some 6) rfl rfl Tryz.func13 (by kernel_rfl) rfl #[.slice A0 l0.length c0] rfl (by (try simp only [List.map_toArray,List.map_cons,List.map_nil]);first | done | rfl | (simp only [List.length_drop,List.length_take];rfl)) ?_;(with_reducible refine (xSound3.calls _ _ l0 true _ ?side1 ?side2 A2.out).mono ?_);(case side1=>repeat (first | exact HR0.out | (with_reducible refine Kd.C_alloc ?_ _) | (with_reducible refine Kd.C_drewN ?_ _) | (with_reducible refine Kd.C_drew ?_)));(case side2=>exact HC0.out);rintro e w4 ⟨rfl,hb⟩;refine ⟨_,rfl, ?_⟩;have n0_:=Aside0.mk (below_step (by repeat (first | (with_reducible first | exact HB.out | apply below_alloc | apply pw_below_drewN | apply below_drew1) | exact HB.out)) hb);clear HB;have HB:=n0_;clear n0_;(try clear hb);(try clear hb2);(try clear hk);(try clear hi)))
  go_loopg [3,4] k (fun kq v3 v4 w'=>∃ (x3_1 : ByteArray) (x4_1 : Int),v3 = .string x3_1 ∧ v4 = .int .i64 x4_1 ∧ Aside0 (freshetref03_Show.l0 kq l0 x3_1 x4_1 = some r) ∧ Aside0 (kq ≤ k) ∧ Aside0 (Below w.heap.size w w'))
  case atStart=>exact ⟨((⟨#[]⟩ : ByteArray)),(0),(by first | rfl | (simp;done) | (simp [*];done)),(by first | rfl | (simp;done) | (simp [*];done)),H',⟨Nat.le_refl _⟩,⟨by repeat (first | (with_reducible first | exact HB.out | apply below_alloc | apply pw_below_drewN | apply below_drew1) | exact HB.out)⟩⟩
  case round =>
   clear H'
   try clear c1
   try clear p2
   try clear c3
   obtain ⟨x3_1,x4_1,rfl,rfl,HA,HK1,HB⟩:=hrel
   cases gk with
   | zero=>exact absurd HA.out (by simp [freshetref03_Show.l0])
   | succ k1 =>
    have H:=HA.out
    clear HA
    simp only [freshetref03_Show.l0] at H
    by_cases c5 : x4_1 < (l0.length : Int)
    ·rw [if_pos c5] at H
     have c5b0 : decide (x4_1 < (l0.length : Int)) = true:=decide_eq_true c5
     clear c5
     by_cases c6 : x4_1 > 0
     ·rw [if_pos c6] at H
      have c6b0 : decide (0 < x4_1) = true:=decide_eq_true c6
      clear c6
      by_cases c7 : x3_1.size + 1 ≤ 9223372036854775807
      ·rw [if_pos c7] at H
       have c7b0:=eq_true c7
       have c7b1 : decide (x3_1.size + 1 ≤ 9223372036854775807) = true:=decide_eq_true c7
       try have c7b2 : (9223372036854775807 < x3_1.size + 1) = False:=eq_false (Nat.not_lt.2 c7)
       by_cases c8 : 0 ≤ x4_1
       ·rw [if_pos c8] at H
        have c8b0 : decide (0 ≤ x4_1) = true:=decide_eq_true c8
        clear c8
        replace H:=Option.bind_eq_some_iff.mp H
        obtain ⟨t177,A90,H⟩:=H
        replace H : (if (x3_1 ++ (⟨#[32]⟩ : ByteArray)).size + t177.size ≤ 9223372036854775807 then (if ((x3_1 ++ (⟨#[32]⟩ : ByteArray)) ++ t177).size + 1 ≤ 9223372036854775807 then ((xrShow.f 2 ((rd_T48 l0 x4_1).f1) 0 (⟨#[]⟩ : ByteArray)).bind fun t179=>(if (((x3_1 ++ (⟨#[32]⟩ : ByteArray)) ++ t177) ++ (⟨#[120]⟩ : ByteArray)).size + t179.size ≤ 9223372036854775807 then (freshetref03_Show.l0 k1 l0 ((((x3_1 ++ (⟨#[32]⟩ : ByteArray)) ++ t177) ++ (⟨#[120]⟩ : ByteArray)) ++ t179) (wrap64 (x4_1 + 1))) else (none))) else (none)) else (none)) = some r:=H
        have A9:=Aside0.mk A90
        clear A90
        by_cases c10 : (x3_1 ++ (⟨#[32]⟩ : ByteArray)).size + t177.size ≤ 9223372036854775807
        ·rw [if_pos c10] at H
         have c10b0:=eq_true c10
         have c10b1 : decide ((x3_1 ++ (⟨#[32]⟩ : ByteArray)).size + t177.size ≤ 9223372036854775807) = true:=decide_eq_true c10
         try have c10b2 : (9223372036854775807 < (x3_1 ++ (⟨#[32]⟩ : ByteArray)).size + t177.size) = False:=eq_false (Nat.not_lt.2 c10)
         have c10y:=c10
         (try simp only [ByteArray.size_append,show (⟨#[32]⟩ : ByteArray).size = 1 from rfl] at c10y)
         have c10z:=eq_false (Nat.not_lt.2 c10y)
         by_cases c11 : ((x3_1 ++ (⟨#[32]⟩ : ByteArray)) ++ t177).size + 1 ≤ 9223372036854775807
         ·rw [if_pos c11] at H
          have c11b0:=eq_true c11
          have c11b1 : decide (((x3_1 ++ (⟨#[32]⟩ : ByteArray)) ++ t177).size + 1 ≤ 9223372036854775807) = true:=decide_eq_true c11
          try have c11b2 : (9223372036854775807 < ((x3_1 ++ (⟨#[32]⟩ : ByteArray)) ++ t177).size + 1) = False:=eq_false (Nat.not_lt.2 c11)
          have c11y:=c11
          (try simp only [ByteArray.size_append,show (⟨#[32]⟩ : ByteArray).size = 1 from rfl] at c11y)
          have c11z:=eq_false (Nat.not_lt.2 c11y)
          replace H:=Option.bind_eq_some_iff.mp H
          obtain ⟨t179,A120,H⟩:=H
          replace H : (if (((x3_1 ++ (⟨#[32]⟩ : ByteArray)) ++ t177) ++ (⟨#[120]⟩ : ByteArray)).size + t179.size ≤ 9223372036854775807 then (freshetref03_Show.l0 k1 l0 ((((x3_1 ++ (⟨#[32]⟩ : ByteArray)) ++ t177) ++ (⟨#[120]⟩ : ByteArray)) ++ t179) (wrap64 (x4_1 + 1))) else (none)) = some r:=H
          have A12:=Aside0.mk A120
          clear A120
          by_cases c13 : (((x3_1 ++ (⟨#[32]⟩ : ByteArray)) ++ t177) ++ (⟨#[120]⟩ : ByteArray)).size + t179.size ≤ 9223372036854775807
          ·rw [if_pos c13] at H
           have c13b0:=eq_true c13
           have c13b1 : decide ((((x3_1 ++ (⟨#[32]⟩ : ByteArray)) ++ t177) ++ (⟨#[120]⟩ : ByteArray)).size + t179.size ≤ 9223372036854775807) = true:=decide_eq_true c13
           try have c13b2 : (9223372036854775807 < (((x3_1 ++ (⟨#[32]⟩ : ByteArray)) ++ t177) ++ (⟨#[120]⟩ : ByteArray)).size + t179.size) = False:=eq_false (Nat.not_lt.2 c13)
           have c13y:=c13
           (try simp only [ByteArray.size_append,show (⟨#[120]⟩ : ByteArray).size = 1 from rfl,show (⟨#[32]⟩ : ByteArray).size = 1 from rfl] at c13y)
           have c13z:=eq_false (Nat.not_lt.2 c13y)
           have H':=Aside0.mk H
           clear H
           try go_wp2
           have n0_:=Aside0.mk (below_drew1 HB.out)
           clear HB
           have HB:=n0_
           clear n0_
           have p176 : 0 ≤ (x4_1 : Int):=of_decide_eq_true (by first | (with_reducible assumption) | assumption)
           have q176 : x4_1 < (l0.length : Int):=of_decide_eq_true (by first | (with_reducible assumption) | assumption)
           obtain ⟨ad176,A176_0,c176_0,e176,hx176_0,hx176_1,hl176_0,hi176_0⟩:=at_T48 HR0.out x4_1 p176 q176
           have hw176_1:=hx176_1
           have hw176_0:=hx176_0
           cases e176
           replace hx176_0:=(HB.out.cell (World.block_lt_of_cell? w _ hx176_0)).trans hx176_0
           replace hx176_1:=(HB.out.cell (World.block_lt_of_cell? w _ hx176_1)).trans hx176_1
           have HR176_0:=Aside0.mk hi176_0
           have HC176_0:=Aside0.mk hl176_0
           clear hi176_0 hl176_0
           replace p176:=eq_true p176
           replace q176:=eq_true q176
           have p178 : 0 ≤ (x4_1 : Int):=of_decide_eq_true (by first | (with_reducible assumption) | assumption)
           have q178 : x4_1 < (l0.length : Int):=of_decide_eq_true (by first | (with_reducible assumption) | assumption)
           obtain ⟨ad178,A178_0,c178_0,e178,hx178_0,hx178_1,hl178_0,hi178_0⟩:=at_T48 HR0.out x4_1 p178 q178
           have hw178_1:=hx178_1
           have hw178_0:=hx178_0
           obtain rfl : ad176 = ad178:=(by injection e178)
           replace hx178_0:=(HB.out.cell (World.block_lt_of_cell? w _ hx178_0)).trans hx178_0
           replace hx178_1:=(HB.out.cell (World.block_lt_of_cell? w _ hx178_1)).trans hx178_1
           have HR178_0:=Aside0.mk hi178_0
           have HC178_0:=Aside0.mk hl178_0
           clear hi178_0 hl178_0
           replace p178:=eq_true p178
           replace q178:=eq_true q178
           have ea_:=Option.some.inj (hx176_0.symm.trans hx178_0)
           injection ea_ with ea_ en_ ec_
           subst ea_
           subst ec_
           clear en_
           refine start_ (n:=18) (S:=fun w'=>w'.cell? (ad176.add ((x4_1).toNat * 2)) = some (.slice A176_0 ((rd_T48 l0 x4_1).f0).length c176_0) ∧ w'.cell? ⟨(ad176.add ((x4_1).toNat * 2)).block,(ad176.add ((x4_1).toNat * 2)).off + 1,none⟩ = some (.int .i64 ((rd_T48 l0 x4_1).f1)) ∧ w'.cell? (ad176.add ((x4_1).toNat * 2)) = some (.slice A176_0 ((rd_T48 l0 x4_1).f0).length c176_0) ∧ w'.cell? ⟨(ad176.add ((x4_1).toNat * 2)).block,(ad176.add ((x4_1).toNat * 2)).off + 1,none⟩ = some (.int .i64 ((rd_T48 l0 x4_1).f1))) (ds:=[]) #[false,false,false,false,false,false,false,false,false,false,false,false,false,false,false,false,false,false] (by kernel_rfl) rfl rfl ⟨((HB.out.cell (World.block_lt_of_cell? w _ hw176_0)).trans hw176_0),((HB.out.cell (World.block_lt_of_cell? w _ hw176_1)).trans hw176_1),((HB.out.cell (World.block_lt_of_cell? w _ hw178_0)).trans hw178_0),((HB.out.cell (World.block_lt_of_cell? w _ hw178_1)).trans hw178_1)⟩ (fun hHeld=>?_);refine with_tabW freshetref03_Show.tab9 freshetref03_Show.bits9 (fun HT_ HW_=>?_)
           generalize wr.drew = w14 at HB HR176_0 HR178_0 hx176_0 hx176_1 hx178_0 hx178_1 hHeld ⊢
           refine pure_ (i:=0) (N:=some 18) (v:=?_) (a':=?_) #[true,false,false,false,false,false,false,false,false,false,false,false,false,false,false,false,false,false] rfl rfl (any_of HT_.out (by kernel_rfl)) (fun _ _ _ h=>h) (Or.inl ⟨by rfl, ?_⟩) ?_ ?_
           rotate_left
           ·intro w'
            go_simp
            with_reducible rfl
           rotate_left
           ·simp only [Act.put,List.setIfInBounds_toArray,List.set_cons_zero,List.set_cons_succ,i64_w,i32_w]
            rfl
           refine pure_ (i:=1) (N:=some 19) (v:=?_) (a':=?_) #[true,true,false,false,false,false,false,false,false,false,false,false,false,false,false,false,false,false] rfl rfl (any_of HT_.out (by kernel_rfl)) (fun _ _ _ h=>h) (Or.inl ⟨by rfl, ?_⟩) ?_ ?_
           rotate_left
           ·intro w'
            go_simp
            with_reducible rfl
           rotate_left
           ·simp only [Act.put,List.setIfInBounds_toArray,List.set_cons_zero,List.set_cons_succ,i64_w,i32_w]
            rfl
           refine pure_ (i:=2) (N:=some 20) (v:=?_) (a':=?_) #[true,true,true,false,false,false,false,false,false,false,false,false,false,false,false,false,false,false] rfl rfl (any_of HT_.out (by kernel_rfl)) (fun _ _ _ h=>h) (Or.inl ⟨by rfl, ?_⟩) ?_ ?_
           rotate_left
           ·intro w'
            go_simp
            with_reducible rfl
           rotate_left
           ·simp only [Act.put,List.setIfInBounds_toArray,List.set_cons_zero,List.set_cons_succ,i64_w,i32_w]
            rfl
           refine pure_ (i:=3) (N:=some 21) (v:=?_) (a':=?_) #[true,true,true,true,false,false,false,false,false,false,false,false,false,false,false,false,false,false] rfl rfl (any_of HT_.out (by kernel_rfl)) (fun _ _ _ h=>h) (Or.inl ⟨by rfl, ?_⟩) ?_ ?_
           rotate_left
           ·intro w'
            go_simp
            with_reducible rfl
           rotate_left
           ·simp only [Act.put,List.setIfInBounds_toArray,List.set_cons_zero,List.set_cons_succ,i64_w,i32_w]
            rfl
           refine pure_ (i:=4) (N:=some 22) (v:=?_) (a':=?_) #[true,true,true,true,true,false,false,false,false,false,false,false,false,false,false,false,false,false] rfl rfl (any_of HT_.out (by kernel_rfl)) (fun _ _ _ h=>h) (Or.inl ⟨by rfl, ?_⟩) ?_ ?_
           rotate_left
           ·intro w'
            go_simp
            with_reducible rfl
           rotate_left
           ·simp only [Act.put,List.setIfInBounds_toArray,List.set_cons_zero,List.set_cons_succ,i64_w,i32_w]
            rfl
           refine pure_ (i:=9) (N:=some 27) (v:=?_) (a':=?_) #[true,true,true,true,true,false,false,false,false,true,false,false,false,false,false,false,false,false] rfl rfl (any_of HT_.out (by kernel_rfl)) (fun _ _ _ h=>h) (Or.inl ⟨by rfl, ?_⟩) ?_ ?_
           rotate_left
           ·intro w'
            go_simp
            with_reducible rfl
           rotate_left
           ·simp only [Act.put,List.setIfInBounds_toArray,List.set_cons_zero,List.set_cons_succ,i64_w,i32_w]
            rfl
           refine pure_ (i:=10) (N:=some 28) (v:=?_) (a':=?_) #[true,true,true,true,true,false,false,false,false,true,true,false,false,false,false,false,false,false] rfl rfl (any_of HT_.out (by kernel_rfl)) (fun _ _ _ h=>h) (Or.inl ⟨by rfl, ?_⟩) ?_ ?_
           rotate_left
           ·intro w'
            go_simp
            with_reducible rfl
           rotate_left
           ·simp only [Act.put,List.setIfInBounds_toArray,List.set_cons_zero,List.set_cons_succ,i64_w,i32_w]
            rfl
           refine pure_ (i:=11) (N:=some 29) (v:=?_) (a':=?_) #[true,true,true,true,true,false,false,false,false,true,true,true,false,false,false,false,false,false] rfl rfl (any_of HT_.out (by kernel_rfl)) (fun _ _ _ h=>h) (Or.inl ⟨by rfl, ?_⟩) ?_ ?_
           rotate_left
           ·intro w'
            go_simp
            with_reducible rfl
           rotate_left
           ·simp only [Act.put,List.setIfInBounds_toArray,List.set_cons_zero,List.set_cons_succ,i64_w,i32_w]
            rfl
           refine pure_ (i:=12) (N:=some 30) (v:=?_) (a':=?_) #[true,true,true,true,true,false,false,false,false,true,true,true,true,false,false,false,false,false] rfl rfl (any_of HT_.out (by kernel_rfl)) (fun _ _ _ h=>h) (Or.inl ⟨by rfl, ?_⟩) ?_ ?_
           rotate_left
           ·intro w'
            go_simp
            with_reducible rfl
           rotate_left
           ·simp only [Act.put,List.setIfInBounds_toArray,List.set_cons_zero,List.set_cons_succ,i64_w,i32_w]
            rfl
           refine take_ (i:=5) (N:=some 23) (v:=?_) (a':=?_) #[true,true,true,true,true,true,false,false,false,true,true,true,true,false,false,false,false,false] rfl rfl (take_ofW HT_.out HW_.out (by kernel_rfl)) (fun _ _ _ h=>h) (Or.inl ⟨by rfl, ?_⟩) hHeld ?_ ?_
           rotate_left
           ·rintro w' ⟨s0,s1,s2,s3⟩
            go_simp
            with_reducible rfl
           rotate_left
           ·simp only [Act.put,List.setIfInBounds_toArray,List.set_cons_zero,List.set_cons_succ,i64_w,i32_w]
            rfl
           refine take_ (i:=13) (N:=some 31) (v:=?_) (a':=?_) #[true,true,true,true,true,true,false,false,false,true,true,true,true,true,false,false,false,false] rfl rfl (take_ofW HT_.out HW_.out (by kernel_rfl)) (fun _ _ _ h=>h) (Or.inl ⟨by rfl, ?_⟩) hHeld ?_ ?_
           rotate_left
           ·rintro w' ⟨s0,s1,s2,s3⟩
            go_simp
            with_reducible rfl
           rotate_left
           ·simp only [Act.put,List.setIfInBounds_toArray,List.set_cons_zero,List.set_cons_succ,i64_w,i32_w]
            rfl
           refine pure_ (i:=14) (N:=some 32) (v:=?_) (a':=?_) #[true,true,true,true,true,true,false,false,false,true,true,true,true,true,true,false,false,false] rfl rfl (any_of HT_.out (by kernel_rfl)) (fun _ _ _ h=>h) (Or.inl ⟨by rfl, ?_⟩) ?_ ?_
           rotate_left
           ·intro w'
            go_simp
            with_reducible rfl
           rotate_left
           ·simp only [Act.put,List.setIfInBounds_toArray,List.set_cons_zero,List.set_cons_succ,i64_w,i32_w]
            rfl
           refine one_ (i:=6) (N:=some 24) #[true,true,true,true,true,true,true,false,false,true,true,true,true,true,true,false,false,false] rfl rfl (one_of HT_.out (by kernel_rfl)) (by decide) (fun K hK=>?_)
           refine goes_ Tryz.func35 (by kernel_rfl) rfl #[.slice A176_0 ((rd_T48 l0 x4_1).f0).length c176_0] (by rfl) rfl rfl (by (try simp only [List.map_toArray,List.map_cons,List.map_nil]);first | done | rfl | (simp only [List.length_drop,List.length_take];rfl)) ?_
           with_reducible refine (freshetref02_Show.calls k1 _ _ ((rd_T48 l0 x4_1).f0) t177 _ ?side1 ?side2 A9.out).mono ?_
           (case side1=>repeat (first | exact (Kd.C_below HR176_0.out HB.out) | (with_reducible refine Kd.C_alloc ?_ _) | (with_reducible refine Kd.C_drewN ?_ _) | (with_reducible refine Kd.C_drew ?_)))
           (case side2=>exact HC176_0.out)
           rintro e w15 ⟨rfl,hb⟩
           refine ⟨_,rfl, ?_⟩
           have n0_:=Aside0.mk (below_step (by repeat (first | (with_reducible first | exact HB.out | apply below_alloc | apply pw_below_drewN | apply below_drew1) | exact HB.out)) hb)
           clear HB
           have HB:=n0_
           clear n0_
           (try clear hb)
           (try clear hb2)
           (try clear hk)
           (try clear hi)
           refine hK.out _ _ ⟨((HB.out.cell (World.block_lt_of_cell? w _ hw176_0)).trans hw176_0),((HB.out.cell (World.block_lt_of_cell? w _ hw176_1)).trans hw176_1),((HB.out.cell (World.block_lt_of_cell? w _ hw178_0)).trans hw178_0),((HB.out.cell (World.block_lt_of_cell? w _ hw178_1)).trans hw178_1)⟩ (fun hHeld=>?_)
           clear hK K
           refine norm_ (a':=?_) ?_ ?_
           rotate_left
           ·show Act.put _ (some 24) _ = _
            simp only [Act.put,List.setIfInBounds_toArray,List.set_cons_zero,List.set_cons_succ,i64_w,i32_w]
            rfl
           refine pure_ (i:=7) (N:=some 25) (v:=?_) (a':=?_) #[true,true,true,true,true,true,true,true,false,true,true,true,true,true,true,false,false,false] rfl rfl (any_of HT_.out (by kernel_rfl)) (fun _ _ _ h=>h) (Or.inl ⟨by rfl, ?_⟩) ?_ ?_
           rotate_left
           ·intro w'
            go_simp
            with_reducible rfl
           rotate_left
           ·simp only [Act.put,List.setIfInBounds_toArray,List.set_cons_zero,List.set_cons_succ,i64_w,i32_w]
            rfl
           refine pure_ (i:=8) (N:=some 26) (v:=?_) (a':=?_) #[true,true,true,true,true,true,true,true,true,true,true,true,true,true,true,false,false,false] rfl rfl (any_of HT_.out (by kernel_rfl)) (fun _ _ _ h=>h) (Or.inl ⟨by rfl, ?_⟩) ?_ ?_
           rotate_left
           ·intro w'
            go_simp
            with_reducible rfl
           rotate_left
           ·simp only [Act.put,List.setIfInBounds_toArray,List.set_cons_zero,List.set_cons_succ,i64_w,i32_w]
            rfl
           refine one_ (i:=15) (N:=some 33) #[true,true,true,true,true,true,true,true,true,true,true,true,true,true,true,true,false,false] rfl rfl (one_of HT_.out (by kernel_rfl)) (by decide) (fun K hK=>?_)
           refine goes_ Tryz.func52 (by kernel_rfl) rfl #[.agg #[.int .i64 2,.int .i64 ((rd_T48 l0 x4_1).f1),.int .u64 0,.string (⟨#[]⟩ : ByteArray)]] (by rfl) rfl rfl (by (try simp only [List.map_toArray,List.map_cons,List.map_nil]);first | done | rfl | (simp only [List.length_drop,List.length_take];rfl)) ?_
           with_reducible refine (xrShow.calls 2 ((rd_T48 l0 x4_1).f1) 0 (⟨#[]⟩ : ByteArray) t179 _ A12.out).mono ?_
           rintro e w16 ⟨rfl,hb⟩
           refine ⟨_,rfl, ?_⟩
           have n0_:=Aside0.mk (below_step (by repeat (first | (with_reducible first | exact HB.out | apply below_alloc | apply pw_below_drewN | apply below_drew1) | exact HB.out)) hb)
           clear HB
           have HB:=n0_
           clear n0_
           (try clear hb)
           (try clear hb2)
           (try clear hk)
           (try clear hi)
           refine hK.out _ _ ⟨((HB.out.cell (World.block_lt_of_cell? w _ hw176_0)).trans hw176_0),((HB.out.cell (World.block_lt_of_cell? w _ hw176_1)).trans hw176_1),((HB.out.cell (World.block_lt_of_cell? w _ hw178_0)).trans hw178_0),((HB.out.cell (World.block_lt_of_cell? w _ hw178_1)).trans hw178_1)⟩ (fun hHeld=>?_)
           clear hK K
           refine norm_ (a':=?_) ?_ ?_
           rotate_left
           ·show Act.put _ (some 33) _ = _
            simp only [Act.put,List.setIfInBounds_toArray,List.set_cons_zero,List.set_cons_succ,i64_w,i32_w]
            rfl
           refine pure_ (i:=16) (N:=some 34) (v:=?_) (a':=?_) #[true,true,true,true,true,true,true,true,true,true,true,true,true,true,true,true,true,false] rfl rfl (any_of HT_.out (by kernel_rfl)) (fun _ _ _ h=>h) (Or.inl ⟨by rfl, ?_⟩) ?_ ?_
           rotate_left
           ·intro w'
            go_simp
            with_reducible rfl
           rotate_left
           ·simp only [Act.put,List.setIfInBounds_toArray,List.set_cons_zero,List.set_cons_succ,i64_w,i32_w]
            rfl
           refine pure_ (i:=17) (N:=some 3) (v:=?_) (a':=?_) #[true,true,true,true,true,true,true,true,true,true,true,true,true,true,true,true,true,true] rfl rfl (any_of HT_.out (by kernel_rfl)) (fun _ _ _ h=>h) (Or.inl ⟨by rfl, ?_⟩) ?_ ?_
           rotate_left
           ·intro w'
            go_simp
            with_reducible rfl
           rotate_left
           ·simp only [Act.put,List.setIfInBounds_toArray,List.set_cons_zero,List.set_cons_succ,i64_w,i32_w]
            rfl
           refine done_ (done_of HT_.out (by kernel_rfl)) ?_
           try go_wp2
           go_roundg k1
           case measure=>have:=HK1.out;omega
           case rel=>exact ⟨((((x3_1 ++ (⟨#[32]⟩ : ByteArray)) ++ t177) ++ (⟨#[120]⟩ : ByteArray)) ++ t179),(wrap64 (x4_1 + 1)),(by first | rfl | (simp;done) | (simp [*];done)),(by first | rfl | (simp;done) | (simp [*];done)),H',⟨by have:=HK1.out;omega⟩,⟨by repeat (first | (with_reducible first | exact HB.out | apply below_alloc | apply pw_below_drewN | apply below_drew1) | exact HB.out)⟩⟩
          ·rw [if_neg c13] at H
           exact absurd H (by simp)
         ·rw [if_neg c11] at H
          exact absurd H (by simp)
        ·rw [if_neg c10] at H
         exact absurd H (by simp)
       ·rw [if_neg c8] at H
        exact absurd H (by simp)
      ·rw [if_neg c7] at H
       exact absurd H (by simp)
     ·rw [if_neg c6] at H
      have c6b0 : decide (0 < x4_1) = false:=decide_eq_false c6
      clear c6
      by_cases c17 : 0 ≤ x4_1
      ·rw [if_pos c17] at H
       have c17b0 : decide (0 ≤ x4_1) = true:=decide_eq_true c17
       clear c17
       replace H:=Option.bind_eq_some_iff.mp H
       obtain ⟨t181,A180,H⟩:=H
       replace H : (if x3_1.size + t181.size ≤ 9223372036854775807 then (if (x3_1 ++ t181).size + 1 ≤ 9223372036854775807 then ((xrShow.f 2 ((rd_T48 l0 x4_1).f1) 0 (⟨#[]⟩ : ByteArray)).bind fun t183=>(if ((x3_1 ++ t181) ++ (⟨#[120]⟩ : ByteArray)).size + t183.size ≤ 9223372036854775807 then (freshetref03_Show.l0 k1 l0 (((x3_1 ++ t181) ++ (⟨#[120]⟩ : ByteArray)) ++ t183) (wrap64 (x4_1 + 1))) else (none))) else (none)) else (none)) = some r:=H
       have A18:=Aside0.mk A180
       clear A180
       by_cases c19 : x3_1.size + t181.size ≤ 9223372036854775807
       ·rw [if_pos c19] at H
        have c19b0:=eq_true c19
        have c19b1 : decide (x3_1.size + t181.size ≤ 9223372036854775807) = true:=decide_eq_true c19
        try have c19b2 : (9223372036854775807 < x3_1.size + t181.size) = False:=eq_false (Nat.not_lt.2 c19)
        by_cases c20 : (x3_1 ++ t181).size + 1 ≤ 9223372036854775807
        ·rw [if_pos c20] at H
         have c20b0:=eq_true c20
         have c20b1 : decide ((x3_1 ++ t181).size + 1 ≤ 9223372036854775807) = true:=decide_eq_true c20
         try have c20b2 : (9223372036854775807 < (x3_1 ++ t181).size + 1) = False:=eq_false (Nat.not_lt.2 c20)
         have c20y:=c20
         (try simp only [ByteArray.size_append] at c20y)
         have c20z:=eq_false (Nat.not_lt.2 c20y)
         replace H:=Option.bind_eq_some_iff.mp H
         obtain ⟨t183,A210,H⟩:=H
         replace H : (if ((x3_1 ++ t181) ++ (⟨#[120]⟩ : ByteArray)).size + t183.size ≤ 9223372036854775807 then (freshetref03_Show.l0 k1 l0 (((x3_1 ++ t181) ++ (⟨#[120]⟩ : ByteArray)) ++ t183) (wrap64 (x4_1 + 1))) else (none)) = some r:=H
         have A21:=Aside0.mk A210
         clear A210
         by_cases c22 : ((x3_1 ++ t181) ++ (⟨#[120]⟩ : ByteArray)).size + t183.size ≤ 9223372036854775807
         ·rw [if_pos c22] at H
          have c22b0:=eq_true c22
          have c22b1 : decide (((x3_1 ++ t181) ++ (⟨#[120]⟩ : ByteArray)).size + t183.size ≤ 9223372036854775807) = true:=decide_eq_true c22
          try have c22b2 : (9223372036854775807 < ((x3_1 ++ t181) ++ (⟨#[120]⟩ : ByteArray)).size + t183.size) = False:=eq_false (Nat.not_lt.2 c22)
          have c22y:=c22
          (try simp only [ByteArray.size_append,show (⟨#[120]⟩ : ByteArray).size = 1 from rfl] at c22y)
          have c22z:=eq_false (Nat.not_lt.2 c22y)
          have H':=Aside0.mk H
          clear H
          try go_wp2
          have n0_:=Aside0.mk (below_drew1 HB.out)
          clear HB
          have HB:=n0_
          clear n0_
          have p180 : 0 ≤ (x4_1 : Int):=of_decide_eq_true (by first | (with_reducible assumption) | assumption)
          have q180 : x4_1 < (l0.length : Int):=of_decide_eq_true (by first | (with_reducible assumption) | assumption)
          obtain ⟨ad180,A180_0,c180_0,e180,hx180_0,hx180_1,hl180_0,hi180_0⟩:=at_T48 HR0.out x4_1 p180 q180
          have hw180_1:=hx180_1
          have hw180_0:=hx180_0
          cases e180
          replace hx180_0:=(HB.out.cell (World.block_lt_of_cell? w _ hx180_0)).trans hx180_0
          replace hx180_1:=(HB.out.cell (World.block_lt_of_cell? w _ hx180_1)).trans hx180_1
          have HR180_0:=Aside0.mk hi180_0
          have HC180_0:=Aside0.mk hl180_0
          clear hi180_0 hl180_0
          replace p180:=eq_true p180
          replace q180:=eq_true q180
          have p182 : 0 ≤ (x4_1 : Int):=of_decide_eq_true (by first | (with_reducible assumption) | assumption)
          have q182 : x4_1 < (l0.length : Int):=of_decide_eq_true (by first | (with_reducible assumption) | assumption)
          obtain ⟨ad182,A182_0,c182_0,e182,hx182_0,hx182_1,hl182_0,hi182_0⟩:=at_T48 HR0.out x4_1 p182 q182
          have hw182_1:=hx182_1
          have hw182_0:=hx182_0
          obtain rfl : ad180 = ad182:=(by injection e182)
          replace hx182_0:=(HB.out.cell (World.block_lt_of_cell? w _ hx182_0)).trans hx182_0
          replace hx182_1:=(HB.out.cell (World.block_lt_of_cell? w _ hx182_1)).trans hx182_1
          have HR182_0:=Aside0.mk hi182_0
          have HC182_0:=Aside0.mk hl182_0
          clear hi182_0 hl182_0
          replace p182:=eq_true p182
          replace q182:=eq_true q182
          have ea_:=Option.some.inj (hx180_0.symm.trans hx182_0)
          injection ea_ with ea_ en_ ec_
          subst ea_
          subst ec_
          clear en_
          refine start_ (n:=18) (S:=fun w'=>w'.cell? (ad180.add ((x4_1).toNat * 2)) = some (.slice A180_0 ((rd_T48 l0 x4_1).f0).length c180_0) ∧ w'.cell? ⟨(ad180.add ((x4_1).toNat * 2)).block,(ad180.add ((x4_1).toNat * 2)).off + 1,none⟩ = some (.int .i64 ((rd_T48 l0 x4_1).f1)) ∧ w'.cell? (ad180.add ((x4_1).toNat * 2)) = some (.slice A180_0 ((rd_T48 l0 x4_1).f0).length c180_0) ∧ w'.cell? ⟨(ad180.add ((x4_1).toNat * 2)).block,(ad180.add ((x4_1).toNat * 2)).off + 1,none⟩ = some (.int .i64 ((rd_T48 l0 x4_1).f1))) (ds:=[]) #[false,false,false,false,false,false,false,false,false,false,false,false,false,false,false,false,false,false] (by kernel_rfl) rfl rfl ⟨((HB.out.cell (World.block_lt_of_cell? w _ hw180_0)).trans hw180_0),((HB.out.cell (World.block_lt_of_cell? w _ hw180_1)).trans hw180_1),((HB.out.cell (World.block_lt_of_cell? w _ hw182_0)).trans hw182_0),((HB.out.cell (World.block_lt_of_cell? w _ hw182_1)).trans hw182_1)⟩ (fun hHeld=>?_);refine with_tabW freshetref03_Show.tab9 freshetref03_Show.bits9 (fun HT_ HW_=>?_)
          generalize wr.drew = w23 at HB HR180_0 HR182_0 hx180_0 hx180_1 hx182_0 hx182_1 hHeld ⊢
          refine pure_ (i:=0) (N:=some 18) (v:=?_) (a':=?_) #[true,false,false,false,false,false,false,false,false,false,false,false,false,false,false,false,false,false] rfl rfl (any_of HT_.out (by kernel_rfl)) (fun _ _ _ h=>h) (Or.inl ⟨by rfl, ?_⟩) ?_ ?_
          rotate_left
          ·intro w'
           go_simp
           with_reducible rfl
          rotate_left
          ·simp only [Act.put,List.setIfInBounds_toArray,List.set_cons_zero,List.set_cons_succ,i64_w,i32_w]
           rfl
          refine pure_ (i:=1) (N:=some 19) (v:=?_) (a':=?_) #[true,true,false,false,false,false,false,false,false,false,false,false,false,false,false,false,false,false] rfl rfl (any_of HT_.out (by kernel_rfl)) (fun _ _ _ h=>h) (Or.inl ⟨by rfl, ?_⟩) ?_ ?_
          rotate_left
          ·intro w'
           go_simp
           with_reducible rfl
          rotate_left
          ·simp only [Act.put,List.setIfInBounds_toArray,List.set_cons_zero,List.set_cons_succ,i64_w,i32_w]
           rfl
          refine pure_ (i:=2) (N:=some 20) (v:=?_) (a':=?_) #[true,true,true,false,false,false,false,false,false,false,false,false,false,false,false,false,false,false] rfl rfl (any_of HT_.out (by kernel_rfl)) (fun _ _ _ h=>h) (Or.inl ⟨by rfl, ?_⟩) ?_ ?_
          rotate_left
          ·intro w'
           go_simp
           with_reducible rfl
          rotate_left
          ·simp only [Act.put,List.setIfInBounds_toArray,List.set_cons_zero,List.set_cons_succ,i64_w,i32_w]
           rfl
          refine pure_ (i:=3) (N:=some 21) (v:=?_) (a':=?_) #[true,true,true,true,false,false,false,false,false,false,false,false,false,false,false,false,false,false] rfl rfl (any_of HT_.out (by kernel_rfl)) (fun _ _ _ h=>h) (Or.inl ⟨by rfl, ?_⟩) ?_ ?_
          rotate_left
          ·intro w'
           go_simp
           with_reducible rfl
          rotate_left
          ·simp only [Act.put,List.setIfInBounds_toArray,List.set_cons_zero,List.set_cons_succ,i64_w,i32_w]
           rfl
          refine pure_ (i:=4) (N:=some 22) (v:=?_) (a':=?_) #[true,true,true,true,true,false,false,false,false,false,false,false,false,false,false,false,false,false] rfl rfl (any_of HT_.out (by kernel_rfl)) (fun _ _ _ h=>h) (Or.inl ⟨by rfl, ?_⟩) ?_ ?_
          rotate_left
          ·intro w'
           go_simp
           with_reducible rfl
          rotate_left
          ·simp only [Act.put,List.setIfInBounds_toArray,List.set_cons_zero,List.set_cons_succ,i64_w,i32_w]
           rfl
          refine pure_ (i:=9) (N:=some 27) (v:=?_) (a':=?_) #[true,true,true,true,true,false,false,false,false,true,false,false,false,false,false,false,false,false] rfl rfl (any_of HT_.out (by kernel_rfl)) (fun _ _ _ h=>h) (Or.inl ⟨by rfl, ?_⟩) ?_ ?_
          rotate_left
          ·intro w'
           go_simp
           with_reducible rfl
          rotate_left
          ·simp only [Act.put,List.setIfInBounds_toArray,List.set_cons_zero,List.set_cons_succ,i64_w,i32_w]
           rfl
          refine pure_ (i:=10) (N:=some 28) (v:=?_) (a':=?_) #[true,true,true,true,true,false,false,false,false,true,true,false,false,false,false,false,false,false] rfl rfl (any_of HT_.out (by kernel_rfl)) (fun _ _ _ h=>h) (Or.inl ⟨by rfl, ?_⟩) ?_ ?_
          rotate_left
          ·intro w'
           go_simp
           with_reducible rfl
          rotate_left
          ·simp only [Act.put,List.setIfInBounds_toArray,List.set_cons_zero,List.set_cons_succ,i64_w,i32_w]
           rfl
          refine pure_ (i:=11) (N:=some 29) (v:=?_) (a':=?_) #[true,true,true,true,true,false,false,false,false,true,true,true,false,false,false,false,false,false] rfl rfl (any_of HT_.out (by kernel_rfl)) (fun _ _ _ h=>h) (Or.inl ⟨by rfl, ?_⟩) ?_ ?_
          rotate_left
          ·intro w'
           go_simp
           with_reducible rfl
          rotate_left
          ·simp only [Act.put,List.setIfInBounds_toArray,List.set_cons_zero,List.set_cons_succ,i64_w,i32_w]
           rfl
          refine pure_ (i:=12) (N:=some 30) (v:=?_) (a':=?_) #[true,true,true,true,true,false,false,false,false,true,true,true,true,false,false,false,false,false] rfl rfl (any_of HT_.out (by kernel_rfl)) (fun _ _ _ h=>h) (Or.inl ⟨by rfl, ?_⟩) ?_ ?_
          rotate_left
          ·intro w'
           go_simp
           with_reducible rfl
          rotate_left
          ·simp only [Act.put,List.setIfInBounds_toArray,List.set_cons_zero,List.set_cons_succ,i64_w,i32_w]
           rfl
          refine take_ (i:=5) (N:=some 23) (v:=?_) (a':=?_) #[true,true,true,true,true,true,false,false,false,true,true,true,true,false,false,false,false,false] rfl rfl (take_ofW HT_.out HW_.out (by kernel_rfl)) (fun _ _ _ h=>h) (Or.inl ⟨by rfl, ?_⟩) hHeld ?_ ?_
          rotate_left
          ·rintro w' ⟨s0,s1,s2,s3⟩
           go_simp
           with_reducible rfl
          rotate_left
          ·simp only [Act.put,List.setIfInBounds_toArray,List.set_cons_zero,List.set_cons_succ,i64_w,i32_w]
           rfl
          refine take_ (i:=13) (N:=some 31) (v:=?_) (a':=?_) #[true,true,true,true,true,true,false,false,false,true,true,true,true,true,false,false,false,false] rfl rfl (take_ofW HT_.out HW_.out (by kernel_rfl)) (fun _ _ _ h=>h) (Or.inl ⟨by rfl, ?_⟩) hHeld ?_ ?_
          rotate_left
          ·rintro w' ⟨s0,s1,s2,s3⟩
           go_simp
           with_reducible rfl
          rotate_left
          ·simp only [Act.put,List.setIfInBounds_toArray,List.set_cons_zero,List.set_cons_succ,i64_w,i32_w]
           rfl
          refine pure_ (i:=14) (N:=some 32) (v:=?_) (a':=?_) #[true,true,true,true,true,true,false,false,false,true,true,true,true,true,true,false,false,false] rfl rfl (any_of HT_.out (by kernel_rfl)) (fun _ _ _ h=>h) (Or.inl ⟨by rfl, ?_⟩) ?_ ?_
          rotate_left
          ·intro w'
           go_simp
           with_reducible rfl
          rotate_left
          ·simp only [Act.put,List.setIfInBounds_toArray,List.set_cons_zero,List.set_cons_succ,i64_w,i32_w]
           rfl
          refine one_ (i:=6) (N:=some 24) #[true,true,true,true,true,true,true,false,false,true,true,true,true,true,true,false,false,false] rfl rfl (one_of HT_.out (by kernel_rfl)) (by decide) (fun K hK=>?_)
          refine goes_ Tryz.func35 (by kernel_rfl) rfl #[.slice A180_0 ((rd_T48 l0 x4_1).f0).length c180_0] (by rfl) rfl rfl (by (try simp only [List.map_toArray,List.map_cons,List.map_nil]);first | done | rfl | (simp only [List.length_drop,List.length_take];rfl)) ?_
          with_reducible refine (freshetref02_Show.calls k1 _ _ ((rd_T48 l0 x4_1).f0) t181 _ ?side1 ?side2 A18.out).mono ?_
          (case side1=>repeat (first | exact (Kd.C_below HR180_0.out HB.out) | (with_reducible refine Kd.C_alloc ?_ _) | (with_reducible refine Kd.C_drewN ?_ _) | (with_reducible refine Kd.C_drew ?_)))
          (case side2=>exact HC180_0.out)
          rintro e w24 ⟨rfl,hb⟩
          refine ⟨_,rfl, ?_⟩
          have n0_:=Aside0.mk (below_step (by repeat (first | (with_reducible first | exact HB.out | apply below_alloc | apply pw_below_drewN | apply below_drew1) | exact HB.out)) hb)
          clear HB
          have HB:=n0_
          clear n0_
          (try clear hb)
          (try clear hb2)
          (try clear hk)
          (try clear hi)
          refine hK.out _ _ ⟨((HB.out.cell (World.block_lt_of_cell? w _ hw180_0)).trans hw180_0),((HB.out.cell (World.block_lt_of_cell? w _ hw180_1)).trans hw180_1),((HB.out.cell (World.block_lt_of_cell? w _ hw182_0)).trans hw182_0),((HB.out.cell (World.block_lt_of_cell? w _ hw182_1)).trans hw182_1)⟩ (fun hHeld=>?_)
          clear hK K
          refine norm_ (a':=?_) ?_ ?_
          rotate_left
          ·show Act.put _ (some 24) _ = _
           simp only [Act.put,List.setIfInBounds_toArray,List.set_cons_zero,List.set_cons_succ,i64_w,i32_w]
           rfl
          refine pure_ (i:=7) (N:=some 25) (v:=?_) (a':=?_) #[true,true,true,true,true,true,true,true,false,true,true,true,true,true,true,false,false,false] rfl rfl (any_of HT_.out (by kernel_rfl)) (fun _ _ _ h=>h) (Or.inl ⟨by rfl, ?_⟩) ?_ ?_
          rotate_left
          ·intro w'
           go_simp
           with_reducible rfl
          rotate_left
          ·simp only [Act.put,List.setIfInBounds_toArray,List.set_cons_zero,List.set_cons_succ,i64_w,i32_w]
           rfl
          refine pure_ (i:=8) (N:=some 26) (v:=?_) (a':=?_) #[true,true,true,true,true,true,true,true,true,true,true,true,true,true,true,false,false,false] rfl rfl (any_of HT_.out (by kernel_rfl)) (fun _ _ _ h=>h) (Or.inl ⟨by rfl, ?_⟩) ?_ ?_
          rotate_left
          ·intro w'
           go_simp
           with_reducible rfl
          rotate_left
          ·simp only [Act.put,List.setIfInBounds_toArray,List.set_cons_zero,List.set_cons_succ,i64_w,i32_w]
           rfl
          refine one_ (i:=15) (N:=some 33) #[true,true,true,true,true,true,true,true,true,true,true,true,true,true,true,true,false,false] rfl rfl (one_of HT_.out (by kernel_rfl)) (by decide) (fun K hK=>?_)
          refine goes_ Tryz.func52 (by kernel_rfl) rfl #[.agg #[.int .i64 2,.int .i64 ((rd_T48 l0 x4_1).f1),.int .u64 0,.string (⟨#[]⟩ : ByteArray)]] (by rfl) rfl rfl (by (try simp only [List.map_toArray,List.map_cons,List.map_nil]);first | done | rfl | (simp only [List.length_drop,List.length_take];rfl)) ?_
          with_reducible refine (xrShow.calls 2 ((rd_T48 l0 x4_1).f1) 0 (⟨#[]⟩ : ByteArray) t183 _ A21.out).mono ?_
          rintro e w25 ⟨rfl,hb⟩
          refine ⟨_,rfl, ?_⟩
          have n0_:=Aside0.mk (below_step (by repeat (first | (with_reducible first | exact HB.out | apply below_alloc | apply pw_below_drewN | apply below_drew1) | exact HB.out)) hb)
          clear HB
          have HB:=n0_
          clear n0_
          (try clear hb)
          (try clear hb2)
          (try clear hk)
          (try clear hi)
          refine hK.out _ _ ⟨((HB.out.cell (World.block_lt_of_cell? w _ hw180_0)).trans hw180_0),((HB.out.cell (World.block_lt_of_cell? w _ hw180_1)).trans hw180_1),((HB.out.cell (World.block_lt_of_cell? w _ hw182_0)).trans hw182_0),((HB.out.cell (World.block_lt_of_cell? w _ hw182_1)).trans hw182_1)⟩ (fun hHeld=>?_)
          clear hK K
          refine norm_ (a':=?_) ?_ ?_
          rotate_left
          ·show Act.put _ (some 33) _ = _
           simp only [Act.put,List.setIfInBounds_toArray,List.set_cons_zero,List.set_cons_succ,i64_w,i32_w]
           rfl
          refine pure_ (i:=16) (N:=some 34) (v:=?_) (a':=?_) #[true,true,true,true,true,true,true,true,true,true,true,true,true,true,true,true,true,false] rfl rfl (any_of HT_.out (by kernel_rfl)) (fun _ _ _ h=>h) (Or.inl ⟨by rfl, ?_⟩) ?_ ?_
          rotate_left
          ·intro w'
           go_simp
           with_reducible rfl
          rotate_left
          ·simp only [Act.put,List.setIfInBounds_toArray,List.set_cons_zero,List.set_cons_succ,i64_w,i32_w]
           rfl
          refine pure_ (i:=17) (N:=some 3) (v:=?_) (a':=?_) #[true,true,true,true,true,true,true,true,true,true,true,true,true,true,true,true,true,true] rfl rfl (any_of HT_.out (by kernel_rfl)) (fun _ _ _ h=>h) (Or.inl ⟨by rfl, ?_⟩) ?_ ?_
          rotate_left
          ·intro w'
           go_simp
           with_reducible rfl
          rotate_left
          ·simp only [Act.put,List.setIfInBounds_toArray,List.set_cons_zero,List.set_cons_succ,i64_w,i32_w]
           rfl
          refine done_ (done_of HT_.out (by kernel_rfl)) ?_
          try go_wp2
          go_roundg k1
          case measure=>have:=HK1.out;omega
          case rel=>exact ⟨(((x3_1 ++ t181) ++ (⟨#[120]⟩ : ByteArray)) ++ t183),(wrap64 (x4_1 + 1)),(by first | rfl | (simp;done) | (simp [*];done)),(by first | rfl | (simp;done) | (simp [*];done)),H',⟨by have:=HK1.out;omega⟩,⟨by repeat (first | (with_reducible first | exact HB.out | apply below_alloc | apply pw_below_drewN | apply below_drew1) | exact HB.out)⟩⟩
         ·rw [if_neg c22] at H
          exact absurd H (by simp)
        ·rw [if_neg c20] at H
         exact absurd H (by simp)
       ·rw [if_neg c19] at H
        exact absurd H (by simp)
      ·rw [if_neg c17] at H
       exact absurd H (by simp)
    ·rw [if_neg c5] at H
     have c5b0 : decide (x4_1 < (l0.length : Int)) = false:=decide_eq_false c5
     clear c5
     obtain rfl:=Option.some.inj H
     go_wp2
     go_ret
     exact ⟨by first | rfl | (simp [errW_none,errW_some] <;> rfl) | (simp [*,errW_none,errW_some] <;> rfl),by repeat (first | (with_reducible first | exact HB.out | apply below_alloc | apply pw_below_drewN | apply below_drew1) | exact HB.out)⟩
 ·replace c3:=Bool.eq_false_iff.mpr c3
  subst c3
  have H1 : (some (⟨#[]⟩ : ByteArray)) = some r:=by rw [if_neg (show ¬ (false = true) by decide)] at H;exact H
  clear H
  have H:=H1
  clear H1
  obtain rfl:=Option.some.inj H
  go_enter Tryz.func15,Tryz.ntmps15
  go_wp2_with (first | ((with_reducible refine gate_callee (f:=13) rfl ?_);refine goesL_ (some 6) rfl rfl Tryz.func13 (by kernel_rfl) rfl #[.slice A0 l0.length c0] rfl (by (try simp only [List.map_toArray,List.map_cons,List.map_nil]);first | done | rfl | (simp only [List.length_drop,List.length_take];rfl)) ?_;(with_reducible refine (xSound3.calls _ _ l0 false _ ?side1 ?side2 A2.out).mono ?_);(case side1=>repeat (first | exact HR0.out | (with_reducible refine Kd.C_alloc ?_ _) | (with_reducible refine Kd.C_drewN ?_ _) | (with_reducible refine Kd.C_drew ?_)));(case side2=>exact HC0.out);rintro e w26 ⟨rfl,hb⟩;refine ⟨_,rfl, ?_⟩;have n0_:=Aside0.mk (below_step (by repeat (first | (with_reducible first | exact HB.out | apply below_alloc | apply pw_below_drewN | apply below_drew1) | exact HB.out)) hb);clear HB;have HB:=n0_;clear n0_;(try clear hb);(try clear hb2);(try clear hk);(try clear hi)))
  go_ret
  exact ⟨by first | rfl | (simp [errW_none,errW_some] <;> rfl) | (simp [*,errW_none,errW_some] <;> rfl),by repeat (first | (with_reducible first | exact HB.out | apply below_alloc | apply pw_below_drewN | apply below_drew1) | exact HB.out)⟩
end Go.Proofs.YthpkjkcfhipjhaaGreatDoor.PZB
end
