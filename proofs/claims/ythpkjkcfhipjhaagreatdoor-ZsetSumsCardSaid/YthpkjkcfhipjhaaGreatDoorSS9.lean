/- a part of the claim: what the card leans on, out of the texts PZAx1 (put together by wip/tools/shake.py). -/
import Derived.Test.YthpkjkcfhipjhaaGreatDoorSS2
import Derived.Test.YthpkjkcfhipjhaaGreatDoorSS4
import Derived.Test.YthpkjkcfhipjhaaGreatDoorSS5
import Derived.Test.YthpkjkcfhipjhaaGreatDoorSS6
import Derived.Test.YthpkjkcfhipjhaaGreatDoorSS7
import Derived.BigQuiet
import Derived.Deep.QuietTactic
section
namespace Go.Proofs.YthpkjkcfhipjhaaGreatDoor.PZA
open Go.RowKit Go.Proofs.YthpkjkcfhipjhaaGreatDoorW.PrintWords Go.Proofs.YthpkjkcfhipjhaaGreatDoorW.PrintLast Go.Proofs.YthpkjkcfhipjhaaGreatDoor.PRW
set_option linter.unusedVariables false
set_option linter.unusedSimpArgs false
def freshetref03_Same.l0 : Nat → List (S48) → List (S48) → Int → Option (Bool)
 | 0,_,_,_=>none
 | k + 1,x0,x1,x5=>if x5 < (x0.length : Int) then (if 0 ≤ x5 then (if x5 < (x1.length : Int) then (if ((rd_T48 x0 x5).f1) = ((rd_T48 x1 x5).f1) then ((freshetref02_Same.f k ((rd_T48 x0 x5).f0) ((rd_T48 x1 x5).f0)).bind fun t105=>(if t105 = true then (freshetref03_Same.l0 k x0 x1 (wrap64 (x5 + 1))) else (some false))) else (some false)) else (none)) else (none)) else (some true)
def freshetref03_Same.f (k : Nat) (l0 : List (S48)) (l1 : List (S48)) : Option (Bool):=if (l0.length : Int) = (l1.length : Int) then (freshetref03_Same.l0 k l0 l1 0) else (some false)
theorem freshetref03_Same.mono_l : ∀ k,(∀ y0 y1 y2,LeO (freshetref03_Same.l0 k y0 y1 y2) (freshetref03_Same.l0 (k + 1) y0 y1 y2))
 | 0=>fun _ _ _ r h=>by simp [freshetref03_Same.l0] at h
 | k + 1=>by
  have ih0:=freshetref03_Same.mono_l k
  ·intro y0 y1 y2
   unfold freshetref03_Same.l0
   repeat' first
   | (with_reducible exact ih0 _ _ _)
   | (with_reducible exact freshetref02_Same.mono _ _ _)
   | (with_reducible exact LeO.refl _)
   | (with_reducible exact LeO.none _)
   | (with_reducible refine LeO.ite ?_ ?_)
   | (with_reducible refine LeO.bind ?_ (fun _=>?_))
   | exact ih0 _ _ _
   | exact freshetref02_Same.mono _ _ _
   | exact LeO.none _
   | refine LeO.ite ?_ ?_
   | refine LeO.bind ?_ (fun _=>?_)
theorem freshetref03_Same.mono : ∀ a0 a1 k,LeO (freshetref03_Same.f k a0 a1) (freshetref03_Same.f (k + 1) a0 a1):=by
 intro a0 a1 k
 have ih0:=freshetref03_Same.mono_l k
 unfold freshetref03_Same.f
 repeat' first
   | (with_reducible exact ih0 _ _ _)
   | (with_reducible exact freshetref02_Same.mono _ _ _)
   | (with_reducible exact LeO.refl _)
   | (with_reducible exact LeO.none _)
   | (with_reducible refine LeO.ite ?_ ?_)
   | (with_reducible refine LeO.bind ?_ (fun _=>?_))
   | exact ih0 _ _ _
   | exact freshetref02_Same.mono _ _ _
   | exact LeO.none _
   | refine LeO.ite ?_ ?_
   | refine LeO.bind ?_ (fun _=>?_)
set_option maxHeartbeats 8000000 in
set_option maxRecDepth 100000 in
theorem freshetref03_Same.calls (k : Nat) (A0 : Option Addr) (c0 : Nat) (l0 : List (S48)) (A1 : Option Addr) (c1 : Nat) (l1 : List (S48)) (r : Bool) (w : World) (hr0 : Kd.C k48 w A0 l0.length l0) (hc0 : l0.length ≤ c0) (hr1 : Kd.C k48 w A1 l1.length l1) (hc1 : l1.length ≤ c1) (h : freshetref03_Same.f k l0 l1 = some r) :
  Calls Tryz.prog 11 #[.slice A0 l0.length c0,.slice A1 l1.length c1] w fun e w'=>e = .returned (.bool r) ∧ Drawn0 w w':=by
 have HR0:=Aside0.mk hr0
 have HC0:=Aside0.mk hc0
 clear hr0 hc0
 have HR1:=Aside0.mk hr1
 have HC1:=Aside0.mk hc1
 clear hr1 hc1
 have H : (if (l0.length : Int) = (l1.length : Int) then (freshetref03_Same.l0 k l0 l1 0) else (some false)) = some r:=h
 clear h
 by_cases c3 : (l0.length : Int) = (l1.length : Int)
 ·rw [if_pos c3] at H
  have c3b0 : ((l0.length : Int) == (l1.length : Int)) = true:=beq_iff_eq.mpr c3
  have c3b1 : ((l0.length : Int) != (l1.length : Int)) = false:=bne_eq_false_iff_eq.mpr c3
  have c3b2 : (l0.length == l1.length) = true:=by first | simpa using c3 | (simp at c3 ⊢;omega)
  clear c3
  have H':=Aside0.mk H
  clear H
  go_enter Tryz.func11,Tryz.ntmps11
  go_wp2
  repeat (go_quiet (fail);try go_wp2)
  go_loopg [5] k (fun kq v5 w'=>∃ (x5_1 : Int),v5 = .int .i64 x5_1 ∧ Aside0 (freshetref03_Same.l0 kq l0 l1 x5_1 = some r) ∧ Aside0 (kq ≤ k) ∧ Drawn0 w w')
  case atStart=>exact ⟨(0),(by first | rfl | (simp;done) | (simp [*];done)),H',⟨Nat.le_refl _⟩,by repeat (first | exact Drawn0.refl _ | apply Drawn0.step)⟩
  case round =>
   clear H'
   try clear c1
   try clear p2
   try clear c3
   try clear c3b0
   try clear c3b1
   try clear c3b2
   obtain ⟨x5_1,rfl,HA,HK1,⟨m1,rfl⟩⟩:=hrel
   cases gk with
   | zero=>exact absurd HA.out (by simp [freshetref03_Same.l0])
   | succ k1 =>
    have H:=HA.out
    clear HA
    simp only [freshetref03_Same.l0] at H
    by_cases c4 : x5_1 < (l0.length : Int)
    ·rw [if_pos c4] at H
     have c4b0 : decide (x5_1 < (l0.length : Int)) = true:=decide_eq_true c4
     clear c4
     by_cases c5 : 0 ≤ x5_1
     ·rw [if_pos c5] at H
      have c5b0 : decide (0 ≤ x5_1) = true:=decide_eq_true c5
      clear c5
      by_cases c6 : x5_1 < (l1.length : Int)
      ·rw [if_pos c6] at H
       have c6b0 : decide (x5_1 < (l1.length : Int)) = true:=decide_eq_true c6
       clear c6
       by_cases c7 : ((rd_T48 l0 x5_1).f1) = ((rd_T48 l1 x5_1).f1)
       ·rw [if_pos c7] at H
        have c7b0 : (((rd_T48 l0 x5_1).f1) == ((rd_T48 l1 x5_1).f1)) = true:=beq_iff_eq.mpr c7
        have c7b1 : (((rd_T48 l0 x5_1).f1) != ((rd_T48 l1 x5_1).f1)) = false:=bne_eq_false_iff_eq.mpr c7
        clear c7
        replace H:=Option.bind_eq_some_iff.mp H
        obtain ⟨t105,A80,H⟩:=H
        replace H : (if t105 = true then (freshetref03_Same.l0 k1 l0 l1 (wrap64 (x5_1 + 1))) else (some false)) = some r:=H
        have A8:=Aside0.mk A80
        clear A80
        by_cases c9 : t105 = true
        ·subst c9
         have H1 : (freshetref03_Same.l0 k1 l0 l1 (wrap64 (x5_1 + 1))) = some r:=by rw [if_pos rfl] at H;exact H
         clear H
         have H:=H1
         clear H1
         have H':=Aside0.mk H
         clear H
         have p101 : 0 ≤ (x5_1 : Int):=of_decide_eq_true (by first | (with_reducible assumption) | assumption)
         have q101 : x5_1 < (l0.length : Int):=of_decide_eq_true (by first | (with_reducible assumption) | assumption)
         obtain ⟨ad101,A101_0,c101_0,e101,hx101_0,hx101_1,hl101_0,hi101_0⟩:=at_T48 HR0.out x5_1 p101 q101
         cases e101
         have HR101_0:=Aside0.mk hi101_0
         have HC101_0:=Aside0.mk hl101_0
         clear hi101_0 hl101_0
         replace p101:=eq_true p101
         replace q101:=eq_true q101
         have p102 : 0 ≤ (x5_1 : Int):=of_decide_eq_true (by first | (with_reducible assumption) | assumption)
         have q102 : x5_1 < (l1.length : Int):=of_decide_eq_true (by first | (with_reducible assumption) | assumption)
         obtain ⟨ad102,A102_0,c102_0,e102,hx102_0,hx102_1,hl102_0,hi102_0⟩:=at_T48 HR1.out x5_1 p102 q102
         cases e102
         have HR102_0:=Aside0.mk hi102_0
         have HC102_0:=Aside0.mk hl102_0
         clear hi102_0 hl102_0
         replace p102:=eq_true p102
         replace q102:=eq_true q102
         have p103 : 0 ≤ (x5_1 : Int):=of_decide_eq_true (by first | (with_reducible assumption) | assumption)
         have q103 : x5_1 < (l0.length : Int):=of_decide_eq_true (by first | (with_reducible assumption) | assumption)
         obtain ⟨ad103,A103_0,c103_0,e103,hx103_0,hx103_1,hl103_0,hi103_0⟩:=at_T48 HR0.out x5_1 p103 q103
         obtain rfl : ad101 = ad103:=(by injection e103)
         have HR103_0:=Aside0.mk hi103_0
         have HC103_0:=Aside0.mk hl103_0
         clear hi103_0 hl103_0
         replace p103:=eq_true p103
         replace q103:=eq_true q103
         have ea_:=Option.some.inj (hx101_0.symm.trans hx103_0)
         injection ea_ with ea_ en_ ec_
         subst ea_
         subst ec_
         clear en_
         have p104 : 0 ≤ (x5_1 : Int):=of_decide_eq_true (by first | (with_reducible assumption) | assumption)
         have q104 : x5_1 < (l1.length : Int):=of_decide_eq_true (by first | (with_reducible assumption) | assumption)
         obtain ⟨ad104,A104_0,c104_0,e104,hx104_0,hx104_1,hl104_0,hi104_0⟩:=at_T48 HR1.out x5_1 p104 q104
         obtain rfl : ad102 = ad104:=(by injection e104)
         have HR104_0:=Aside0.mk hi104_0
         have HC104_0:=Aside0.mk hl104_0
         clear hi104_0 hl104_0
         replace p104:=eq_true p104
         replace q104:=eq_true q104
         have ea_:=Option.some.inj (hx102_0.symm.trans hx104_0)
         injection ea_ with ea_ en_ ec_
         subst ea_
         subst ec_
         clear en_
         go_wp2_with (first | (go_at_call 33;(with_reducible refine (freshetref02_Same.calls k1 _ _ ((rd_T48 l0 x5_1).f0) _ _ ((rd_T48 l1 x5_1).f0) true _ ?side1 ?side2 ?side3 ?side4 A8.out).mono ?_);(case side1=>repeat (first | exact HR103_0.out | (with_reducible refine Kd.C_alloc ?_ _) | (with_reducible refine Kd.C_drewN ?_ _) | (with_reducible refine Kd.C_drew ?_)));(case side2=>exact HC103_0.out);(case side3=>repeat (first | exact HR104_0.out | (with_reducible refine Kd.C_alloc ?_ _) | (with_reducible refine Kd.C_drewN ?_ _) | (with_reducible refine Kd.C_drew ?_)));(case side4=>exact HC104_0.out);rintro e w' ⟨rfl,⟨nd,rfl⟩⟩;(try first | exact ⟨rfl,_,World.drewN_drewN _ _ _⟩ | exact ⟨rfl,_,Eq.trans (World.drewN_drewN _ _ _) (congrArg (World.drewN _) (Nat.add_assoc _ _ _))⟩)))
         repeat (go_quiet (first | (go_at_call 33;(with_reducible refine (freshetref02_Same.calls k1 _ _ ((rd_T48 l0 x5_1).f0) _ _ ((rd_T48 l1 x5_1).f0) true _ ?side1 ?side2 ?side3 ?side4 A8.out).mono ?_);(case side1=>repeat (first | exact HR103_0.out | (with_reducible refine Kd.C_alloc ?_ _) | (with_reducible refine Kd.C_drewN ?_ _) | (with_reducible refine Kd.C_drew ?_)));(case side2=>exact HC103_0.out);(case side3=>repeat (first | exact HR104_0.out | (with_reducible refine Kd.C_alloc ?_ _) | (with_reducible refine Kd.C_drewN ?_ _) | (with_reducible refine Kd.C_drew ?_)));(case side4=>exact HC104_0.out);rintro e w' ⟨rfl,⟨nd,rfl⟩⟩;(try first | exact ⟨rfl,_,World.drewN_drewN _ _ _⟩ | exact ⟨rfl,_,Eq.trans (World.drewN_drewN _ _ _) (congrArg (World.drewN _) (Nat.add_assoc _ _ _))⟩)));try go_wp2_with (first | (go_at_call 33;(with_reducible refine (freshetref02_Same.calls k1 _ _ ((rd_T48 l0 x5_1).f0) _ _ ((rd_T48 l1 x5_1).f0) true _ ?side1 ?side2 ?side3 ?side4 A8.out).mono ?_);(case side1=>repeat (first | exact HR103_0.out | (with_reducible refine Kd.C_alloc ?_ _) | (with_reducible refine Kd.C_drewN ?_ _) | (with_reducible refine Kd.C_drew ?_)));(case side2=>exact HC103_0.out);(case side3=>repeat (first | exact HR104_0.out | (with_reducible refine Kd.C_alloc ?_ _) | (with_reducible refine Kd.C_drewN ?_ _) | (with_reducible refine Kd.C_drew ?_)));(case side4=>exact HC104_0.out);rintro e w' ⟨rfl,⟨nd,rfl⟩⟩;(try first | exact ⟨rfl,_,World.drewN_drewN _ _ _⟩ | exact ⟨rfl,_,Eq.trans (World.drewN_drewN _ _ _) (congrArg (World.drewN _) (Nat.add_assoc _ _ _))⟩))))
         go_roundg k1
         case measure=>have:=HK1.out;omega
         case rel=>exact ⟨(wrap64 (x5_1 + 1)),(by first | rfl | (simp;done) | (simp [*];done)),H',⟨by have:=HK1.out;omega⟩,by repeat (first | exact Drawn0.refl _ | apply Drawn0.step)⟩
        ·replace c9:=Bool.eq_false_iff.mpr c9
         subst c9
         have H1 : (some false) = some r:=by rw [if_neg (show ¬ (false = true) by decide)] at H;exact H
         clear H
         have H:=H1
         clear H1
         obtain rfl:=Option.some.inj H
         have p101 : 0 ≤ (x5_1 : Int):=of_decide_eq_true (by first | (with_reducible assumption) | assumption)
         have q101 : x5_1 < (l0.length : Int):=of_decide_eq_true (by first | (with_reducible assumption) | assumption)
         obtain ⟨ad101,A101_0,c101_0,e101,hx101_0,hx101_1,hl101_0,hi101_0⟩:=at_T48 HR0.out x5_1 p101 q101
         cases e101
         have HR101_0:=Aside0.mk hi101_0
         have HC101_0:=Aside0.mk hl101_0
         clear hi101_0 hl101_0
         replace p101:=eq_true p101
         replace q101:=eq_true q101
         have p102 : 0 ≤ (x5_1 : Int):=of_decide_eq_true (by first | (with_reducible assumption) | assumption)
         have q102 : x5_1 < (l1.length : Int):=of_decide_eq_true (by first | (with_reducible assumption) | assumption)
         obtain ⟨ad102,A102_0,c102_0,e102,hx102_0,hx102_1,hl102_0,hi102_0⟩:=at_T48 HR1.out x5_1 p102 q102
         cases e102
         have HR102_0:=Aside0.mk hi102_0
         have HC102_0:=Aside0.mk hl102_0
         clear hi102_0 hl102_0
         replace p102:=eq_true p102
         replace q102:=eq_true q102
         have p103 : 0 ≤ (x5_1 : Int):=of_decide_eq_true (by first | (with_reducible assumption) | assumption)
         have q103 : x5_1 < (l0.length : Int):=of_decide_eq_true (by first | (with_reducible assumption) | assumption)
         obtain ⟨ad103,A103_0,c103_0,e103,hx103_0,hx103_1,hl103_0,hi103_0⟩:=at_T48 HR0.out x5_1 p103 q103
         obtain rfl : ad101 = ad103:=(by injection e103)
         have HR103_0:=Aside0.mk hi103_0
         have HC103_0:=Aside0.mk hl103_0
         clear hi103_0 hl103_0
         replace p103:=eq_true p103
         replace q103:=eq_true q103
         have ea_:=Option.some.inj (hx101_0.symm.trans hx103_0)
         injection ea_ with ea_ en_ ec_
         subst ea_
         subst ec_
         clear en_
         have p104 : 0 ≤ (x5_1 : Int):=of_decide_eq_true (by first | (with_reducible assumption) | assumption)
         have q104 : x5_1 < (l1.length : Int):=of_decide_eq_true (by first | (with_reducible assumption) | assumption)
         obtain ⟨ad104,A104_0,c104_0,e104,hx104_0,hx104_1,hl104_0,hi104_0⟩:=at_T48 HR1.out x5_1 p104 q104
         obtain rfl : ad102 = ad104:=(by injection e104)
         have HR104_0:=Aside0.mk hi104_0
         have HC104_0:=Aside0.mk hl104_0
         clear hi104_0 hl104_0
         replace p104:=eq_true p104
         replace q104:=eq_true q104
         have ea_:=Option.some.inj (hx102_0.symm.trans hx104_0)
         injection ea_ with ea_ en_ ec_
         subst ea_
         subst ec_
         clear en_
         go_wp2_with (first | (go_at_call 33;(with_reducible refine (freshetref02_Same.calls k1 _ _ ((rd_T48 l0 x5_1).f0) _ _ ((rd_T48 l1 x5_1).f0) false _ ?side1 ?side2 ?side3 ?side4 A8.out).mono ?_);(case side1=>repeat (first | exact HR103_0.out | (with_reducible refine Kd.C_alloc ?_ _) | (with_reducible refine Kd.C_drewN ?_ _) | (with_reducible refine Kd.C_drew ?_)));(case side2=>exact HC103_0.out);(case side3=>repeat (first | exact HR104_0.out | (with_reducible refine Kd.C_alloc ?_ _) | (with_reducible refine Kd.C_drewN ?_ _) | (with_reducible refine Kd.C_drew ?_)));(case side4=>exact HC104_0.out);rintro e w' ⟨rfl,⟨nd,rfl⟩⟩;(try first | exact ⟨rfl,_,World.drewN_drewN _ _ _⟩ | exact ⟨rfl,_,Eq.trans (World.drewN_drewN _ _ _) (congrArg (World.drewN _) (Nat.add_assoc _ _ _))⟩)))
         repeat (go_quiet (first | (go_at_call 33;(with_reducible refine (freshetref02_Same.calls k1 _ _ ((rd_T48 l0 x5_1).f0) _ _ ((rd_T48 l1 x5_1).f0) false _ ?side1 ?side2 ?side3 ?side4 A8.out).mono ?_);(case side1=>repeat (first | exact HR103_0.out | (with_reducible refine Kd.C_alloc ?_ _) | (with_reducible refine Kd.C_drewN ?_ _) | (with_reducible refine Kd.C_drew ?_)));(case side2=>exact HC103_0.out);(case side3=>repeat (first | exact HR104_0.out | (with_reducible refine Kd.C_alloc ?_ _) | (with_reducible refine Kd.C_drewN ?_ _) | (with_reducible refine Kd.C_drew ?_)));(case side4=>exact HC104_0.out);rintro e w' ⟨rfl,⟨nd,rfl⟩⟩;(try first | exact ⟨rfl,_,World.drewN_drewN _ _ _⟩ | exact ⟨rfl,_,Eq.trans (World.drewN_drewN _ _ _) (congrArg (World.drewN _) (Nat.add_assoc _ _ _))⟩)));try go_wp2_with (first | (go_at_call 33;(with_reducible refine (freshetref02_Same.calls k1 _ _ ((rd_T48 l0 x5_1).f0) _ _ ((rd_T48 l1 x5_1).f0) false _ ?side1 ?side2 ?side3 ?side4 A8.out).mono ?_);(case side1=>repeat (first | exact HR103_0.out | (with_reducible refine Kd.C_alloc ?_ _) | (with_reducible refine Kd.C_drewN ?_ _) | (with_reducible refine Kd.C_drew ?_)));(case side2=>exact HC103_0.out);(case side3=>repeat (first | exact HR104_0.out | (with_reducible refine Kd.C_alloc ?_ _) | (with_reducible refine Kd.C_drewN ?_ _) | (with_reducible refine Kd.C_drew ?_)));(case side4=>exact HC104_0.out);rintro e w' ⟨rfl,⟨nd,rfl⟩⟩;(try first | exact ⟨rfl,_,World.drewN_drewN _ _ _⟩ | exact ⟨rfl,_,Eq.trans (World.drewN_drewN _ _ _) (congrArg (World.drewN _) (Nat.add_assoc _ _ _))⟩))))
         go_ret
         exact ⟨by first | rfl | (simp;done) | (simp [*];done),by repeat (first | exact Drawn0.refl _ | apply Drawn0.step)⟩
       ·rw [if_neg c7] at H
        have c7b0 : (((rd_T48 l0 x5_1).f1) == ((rd_T48 l1 x5_1).f1)) = false:=beq_eq_false_iff_ne.mpr c7
        have c7b1 : (((rd_T48 l0 x5_1).f1) != ((rd_T48 l1 x5_1).f1)) = true:=bne_iff_ne.mpr c7
        obtain rfl:=Option.some.inj H
        have p101 : 0 ≤ (x5_1 : Int):=of_decide_eq_true (by first | (with_reducible assumption) | assumption)
        have q101 : x5_1 < (l0.length : Int):=of_decide_eq_true (by first | (with_reducible assumption) | assumption)
        obtain ⟨ad101,A101_0,c101_0,e101,hx101_0,hx101_1,hl101_0,hi101_0⟩:=at_T48 HR0.out x5_1 p101 q101
        cases e101
        have HR101_0:=Aside0.mk hi101_0
        have HC101_0:=Aside0.mk hl101_0
        clear hi101_0 hl101_0
        replace p101:=eq_true p101
        replace q101:=eq_true q101
        have p102 : 0 ≤ (x5_1 : Int):=of_decide_eq_true (by first | (with_reducible assumption) | assumption)
        have q102 : x5_1 < (l1.length : Int):=of_decide_eq_true (by first | (with_reducible assumption) | assumption)
        obtain ⟨ad102,A102_0,c102_0,e102,hx102_0,hx102_1,hl102_0,hi102_0⟩:=at_T48 HR1.out x5_1 p102 q102
        cases e102
        have HR102_0:=Aside0.mk hi102_0
        have HC102_0:=Aside0.mk hl102_0
        clear hi102_0 hl102_0
        replace p102:=eq_true p102
        replace q102:=eq_true q102
        go_wp2
        repeat (go_quiet (fail);try go_wp2)
        go_ret
        exact ⟨by first | rfl | (simp;done) | (simp [*];done),by repeat (first | exact Drawn0.refl _ | apply Drawn0.step)⟩
      ·rw [if_neg c6] at H
       exact absurd H (by simp)
     ·rw [if_neg c5] at H
      exact absurd H (by simp)
    ·rw [if_neg c4] at H
     have c4b0 : decide (x5_1 < (l0.length : Int)) = false:=decide_eq_false c4
     clear c4
     obtain rfl:=Option.some.inj H
     go_wp2
     repeat (go_quiet (fail);try go_wp2)
     go_ret
     exact ⟨by first | rfl | (simp;done) | (simp [*];done),by repeat (first | exact Drawn0.refl _ | apply Drawn0.step)⟩
 ·rw [if_neg c3] at H
  have c3b0 : ((l0.length : Int) == (l1.length : Int)) = false:=beq_eq_false_iff_ne.mpr c3
  have c3b1 : ((l0.length : Int) != (l1.length : Int)) = true:=bne_iff_ne.mpr c3
  have c3b2 : (l0.length == l1.length) = false:=by first | simpa using c3 | (simp at c3 ⊢;omega)
  obtain rfl:=Option.some.inj H
  go_enter Tryz.func11,Tryz.ntmps11
  go_wp2
  repeat (go_quiet (fail);try go_wp2)
  go_ret
  exact ⟨by first | rfl | (simp;done) | (simp [*];done),by repeat (first | exact Drawn0.refl _ | apply Drawn0.step)⟩
def zset_isFair.f (a0 : Int) : Option (Bool):=if (-4611686018427387904) ≤ a0 then (some (decide (a0 ≤ 4611686018427387904))) else (some false)
set_option maxHeartbeats 8000000 in
set_option maxRecDepth 100000 in
theorem zset_isFair.calls (a0 : Int) (r : Bool) (w : World) (h : zset_isFair.f a0 = some r) :
  Calls Tryz.prog 39 #[.int .i64 a0] w fun e w'=>e = .returned (.bool r) ∧ Drawn0 w w':=by
 have H : (if (-4611686018427387904) ≤ a0 then (some (decide (a0 ≤ 4611686018427387904))) else (some false)) = some r:=h
 clear h
 by_cases c2 : (-4611686018427387904) ≤ a0
 ·rw [if_pos c2] at H
  have c2b0 : decide ((-4611686018427387904) ≤ a0) = true:=decide_eq_true c2
  clear c2
  obtain rfl:=Option.some.inj H
  go_enter Tryz.func39,Tryz.ntmps39
  go_wp2
  go_ret
  exact ⟨by first | rfl | (simp;done) | (simp [*];done),by repeat (first | exact Drawn0.refl _ | apply Drawn0.step)⟩
 ·rw [if_neg c2] at H
  have c2b0 : decide ((-4611686018427387904) ≤ a0) = false:=decide_eq_false c2
  clear c2
  obtain rfl:=Option.some.inj H
  go_enter Tryz.func39,Tryz.ntmps39
  go_wp2
  go_ret
  exact ⟨by first | rfl | (simp;done) | (simp [*];done),by repeat (first | exact Drawn0.refl _ | apply Drawn0.step)⟩
def zset_byRow.f (l0_0 : List (S64)) (a0_1 : Int) (l1_0 : List (S64)) (a1_1 : Int) : Option (Int):=(xRowCompare.f l0_0 l1_0).bind fun t108=>(some t108)
set_option maxHeartbeats 8000000 in
set_option maxRecDepth 100000 in
theorem zset_byRow.calls (A0_0 : Option Addr) (c0_0 : Nat) (l0_0 : List (S64)) (a0_1 : Int) (A1_0 : Option Addr) (c1_0 : Nat) (l1_0 : List (S64)) (a1_1 : Int) (r : Int) (w : World) (hr0_0 : Kd.C k64 w A0_0 l0_0.length l0_0) (hc0_0 : l0_0.length ≤ c0_0) (hr1_0 : Kd.C k64 w A1_0 l1_0.length l1_0) (hc1_0 : l1_0.length ≤ c1_0) (h : zset_byRow.f l0_0 a0_1 l1_0 a1_1 = some r) :
  Calls Tryz.prog 42 #[.agg #[.slice A0_0 l0_0.length c0_0,.int .i64 a0_1],.agg #[.slice A1_0 l1_0.length c1_0,.int .i64 a1_1]] w fun e w'=>e = .returned (.int .i64 r) ∧ Below w.heap.size w w':=by
 have hu48:=Tryz.underlying48
 have HR0_0:=Aside0.mk hr0_0
 have HC0_0:=Aside0.mk hc0_0
 clear hr0_0 hc0_0
 have HR1_0:=Aside0.mk hr1_0
 have HC1_0:=Aside0.mk hc1_0
 clear hr1_0 hc1_0
 have HB:=Aside0.mk (Below.refl w.heap.size w)
 have H : ((xRowCompare.f l0_0 l1_0).bind fun t108=>(some t108)) = some r:=h
 clear h
 replace H:=Option.bind_eq_some_iff.mp H
 obtain ⟨t108,A30,H⟩:=H
 replace H : (some t108) = some r:=H
 have A3:=Aside0.mk A30
 clear A30
 obtain rfl:=Option.some.inj H
 go_enter Tryz.func42,Tryz.ntmps42
 go_wp2_with (first | ((with_reducible refine gate_dst (N:=2) rfl ?_);refine box_event ?hg (N:=2) ?hd (cs:=#[.slice A0_0 l0_0.length c0_0,.int .i64 a0_1]) (t:=48) ?hr ?_;(case hd=>rfl);(case hg=>rfl);(case hr=>first | (go_simp;done) | (go_simp;rfl));intro gb106 hg w4 hbox hb;have n0_:=Aside0.mk (below_step (by repeat (first | (with_reducible first | exact HB.out | apply below_alloc | apply pw_below_drewN | apply below_drew1) | exact HB.out)) hb);have n1_:=Aside0.mk (hbox);have n2_:=Aside0.mk ((by rw [hg];exact (below_size (by repeat (first | (with_reducible first | exact HB.out | apply below_alloc | apply pw_below_drewN | apply below_drew1) | exact HB.out))) : w.heap.size ≤ gb106));have n3_:=Aside0.mk ((by rw [hg];exact (below_size (by repeat (first | (with_reducible first | exact HB.out | apply below_alloc | apply pw_below_drewN | apply below_drew1) | exact HB.out))) : w.heap.size ≤ gb106));clear HB;have HB:=n0_;have BK106:=n1_;have GW106:=n2_;have GE106:=n3_;clear n0_ n1_ n2_ n3_;clear hb hbox hg) | ((with_reducible refine gate_dst (N:=3) rfl ?_);refine box_event ?hg (N:=3) ?hd (cs:=#[.slice A1_0 l1_0.length c1_0,.int .i64 a1_1]) (t:=48) ?hr ?_;(case hd=>rfl);(case hg=>rfl);(case hr=>first | (go_simp;done) | (go_simp;rfl));intro gb107 hg w5 hbox hb;have n0_:=Aside0.mk (blk_below (g:=gb106) (o:=.cells #[.slice A0_0 l0_0.length c0_0,.int .i64 a0_1] 48 (0,0)) (by (with_reducible repeat (first | refine blk_drewN ?_ _ | refine blk_drew ?_ | refine blk_alloc ?_ _));exact BK106.out) hb);have n1_:=Aside0.mk (below_step (by repeat (first | (with_reducible first | exact HB.out | apply below_alloc | apply pw_below_drewN | apply below_drew1 | refine below_set ?_ GE106.out) | exact HB.out)) hb);have n2_:=Aside0.mk (hbox);have n3_:=Aside0.mk ((by rw [hg];exact (below_size (by repeat (first | (with_reducible first | exact HB.out | apply below_alloc | apply pw_below_drewN | apply below_drew1 | refine below_set ?_ GE106.out) | exact HB.out))) : w.heap.size ≤ gb107));have n4_:=Aside0.mk ((by rw [hg];exact (below_size (by repeat (first | (with_reducible first | exact HB.out | apply below_alloc | apply pw_below_drewN | apply below_drew1 | refine below_set ?_ GE106.out) | exact HB.out))) : w.heap.size ≤ gb107));have n5_:=Aside0.mk ((by rw [hg];exact Nat.ne_of_lt (blk_lt (g:=gb106) (o:=.cells #[.slice A0_0 l0_0.length c0_0,.int .i64 a0_1] 48 (0,0)) (by (with_reducible repeat (first | refine blk_drewN ?_ _ | refine blk_drew ?_ | refine blk_alloc ?_ _));exact BK106.out)) : gb106 ≠ gb107));have n6_:=Aside0.mk ((by rw [hg];exact Nat.ne_of_gt (blk_lt (g:=gb106) (o:=.cells #[.slice A0_0 l0_0.length c0_0,.int .i64 a0_1] 48 (0,0)) (by (with_reducible repeat (first | refine blk_drewN ?_ _ | refine blk_drew ?_ | refine blk_alloc ?_ _));exact BK106.out)) : gb107 ≠ gb106));clear BK106;clear HB;have BK106:=n0_;have HB:=n1_;have BK107:=n2_;have GW107:=n3_;have GE107:=n4_;have NB106_107:=n5_;have NB107_106:=n6_;clear n0_ n1_ n2_ n3_ n4_ n5_ n6_;clear hb hbox hg;have hnb6:=NB106_107.out;have hnc6:=NB107_106.out;have hcz7_0 : w5.cell? ⟨gb106,0,none⟩ = some (.slice A0_0 l0_0.length c0_0):=(blk_cell BK106.out 0).trans rfl;have hcz7_1 : w5.cell? ⟨gb106,1,none⟩ = some (.int .i64 a0_1):=(blk_cell BK106.out 1).trans rfl;have hfz7_0:=blk_frozen BK106.out 0;have hfz7_1:=blk_frozen BK106.out 1;have hcz8_0 : w5.cell? ⟨gb107,0,none⟩ = some (.slice A1_0 l1_0.length c1_0):=(blk_cell BK107.out 0).trans rfl;have hcz8_1 : w5.cell? ⟨gb107,1,none⟩ = some (.int .i64 a1_1):=(blk_cell BK107.out 1).trans rfl;have hfz8_0:=blk_frozen BK107.out 0;have hfz8_1:=blk_frozen BK107.out 1) | ((with_reducible refine gate_callee (f:=31) rfl ?_);refine goesL_ (some 9) rfl rfl Tryz.func31 (by kernel_rfl) rfl #[.slice A0_0 l0_0.length c0_0,.slice A1_0 l1_0.length c1_0] rfl (by (try simp only [List.map_toArray,List.map_cons,List.map_nil]);first | done | rfl | (simp only [List.length_drop,List.length_take];rfl)) ?_;(with_reducible refine (xRowCompare.calls _ _ l0_0 _ _ l1_0 t108 _ ?side1 ?side2 ?side3 ?side4 A3.out).mono ?_);(case side1=>repeat (first | exact (Kd.C_below HR0_0.out HB.out) | (with_reducible refine Kd.C_alloc ?_ _) | (with_reducible refine Kd.C_drewN ?_ _) | (with_reducible refine Kd.C_drew ?_)));(case side2=>exact HC0_0.out);(case side3=>repeat (first | exact (Kd.C_below HR1_0.out HB.out) | (with_reducible refine Kd.C_alloc ?_ _) | (with_reducible refine Kd.C_drewN ?_ _) | (with_reducible refine Kd.C_drew ?_)));(case side4=>exact HC1_0.out);rintro e w9 ⟨rfl,hb⟩;refine ⟨_,rfl, ?_⟩;have n0_:=Aside0.mk (blk_below (g:=gb106) (o:=.cells #[.slice A0_0 l0_0.length c0_0,.int .i64 a0_1] 48 (0,0)) (by (with_reducible repeat (first | refine blk_drewN ?_ _ | refine blk_drew ?_ | refine blk_alloc ?_ _));exact BK106.out) hb);have n1_:=Aside0.mk (blk_below (g:=gb107) (o:=.cells #[.slice A1_0 l1_0.length c1_0,.int .i64 a1_1] 48 (0,0)) (by (with_reducible repeat (first | refine blk_drewN ?_ _ | refine blk_drew ?_ | refine blk_alloc ?_ _));exact BK107.out) hb);have n2_:=Aside0.mk (below_step (by repeat (first | (with_reducible first | exact HB.out | apply below_alloc | apply pw_below_drewN | apply below_drew1 | refine below_set ?_ GE106.out | refine below_set ?_ GE107.out) | exact HB.out)) hb);clear BK106;clear BK107;clear HB;have BK106:=n0_;have BK107:=n1_;have HB:=n2_;clear n0_ n1_ n2_;(try clear hb);(try clear hb2);(try clear hk);(try clear hi)))
 go_ret
 exact ⟨by first | rfl | (simp [errW_none,errW_some] <;> rfl) | (simp [*,errW_none,errW_some] <;> rfl),by repeat (first | (with_reducible first | exact HB.out | apply below_alloc | apply pw_below_drewN | apply below_drew1 | refine below_set ?_ GE106.out | refine below_set ?_ GE107.out) | exact HB.out)⟩
end Go.Proofs.YthpkjkcfhipjhaaGreatDoor.PZA
end
