/- a part of the claim: what the card leans on, out of the texts EL10 (put together by wip/tools/shake.py). -/
import Derived.Test.YtakcjiinchghaaaGreatDoorQE9
import Derived.Test.YtakcjiinchghaaaGreatDoorQE13
import Derived.Test.YtakcjiinchghaaaGreatDoorQE14
section
namespace Go.Proofs.YtakcjiinchghaaaGreatDoor
set_option linter.unusedVariables false
set_option linter.unusedSimpArgs false
open Go.RowKit Go.Proofs.YtakcjiinchghaaaGreatDoorW.PrintWords Go.Proofs.YtakcjiinchghaaaGreatDoorW.PrintLast PRW PRT PEVL
theorem evals_ev (e : List S41) (r : List S29) (w : Int) (re : rngD e = true) (rr : rngL r = true) : Ev (fun k=>freshetlaw05_ExprEvals.f k e r w) true:=by
 by_cases hl : (e.length : Int) > 4100
 ·refine Ev.congr (f:=fun _=>some true) (fun k=>?_) (Ev.now _)
  unfold freshetlaw05_ExprEvals.f xAwake5.f
  simp only [Option.bind_some,if_true]
  rw [if_pos hl]
 have h1 : xEval.f e r = some ((evalE e r).v.f0,(evalE e r).v.f1,(evalE e r).v.f2,(evalE e r).v.f3,(evalE e r).e):=if_pos ⟨re,rr⟩
 have h2 : xrEval.f e r = some ((evalE e r).v.f0,(evalE e r).v.f1,(evalE e r).v.f2,(evalE e r).v.f3,(evalE e r).e):=if_pos ⟨re,rr⟩
 have h3 : xESound.f e w = some (soundE e w):=if_pos re
 have hs:=rsound_ev e w (fun d hd=>(rngD_at re d hd).2.2)
 refine Ev.congr (f:=fun k=>(freshetref05_Sound.f k e w).bind fun t115=>(some (soundE e w == t115))) (fun k=>?_) (Ev.bind hs (Ev.congr (f:=fun _=>some true) (fun k=>by simp) (Ev.now _)))
 unfold freshetlaw05_ExprEvals.f xAwake5.f
 simp only [Option.bind_some,if_true]
 rw [if_neg hl,h1]
 simp only [Option.bind_some]
 rw [h2]
 simp only [Option.bind_some]
 rw [if_pos (by simp),h3]
 simp only [Option.bind_some,if_true]
theorem walkExprEvals (w : World) (A0 : Option Addr) (c0 : Nat) (L0 : List S41) (hc0 : L0.length ≤ c0) (hr0 : Kd.C k41 w A0 L0.length L0) (hg0 : rngD L0 = true) (hz0 : L0.length ≤ 2513169434843)
  (A1 : Option Addr) (c1 : Nat) (L1 : List S29) (hc1 : L1.length ≤ c1) (hr1 : Kd.C k29 w A1 L1.length L1) (hg1 : rngL L1 = true) (a2 : Int) (h2 : I64 a2) (ht : ETab w) :
  Calls Tryz.prog 3 #[.slice A0 L0.length c0,.slice A1 L1.length c1,.int .i64 a2] w fun e w'=>e = .returned (.bool true) ∧ Below w.heap.size w w':=by
 obtain ⟨k,hk⟩:=(evals_ev L0 L1 a2 hg0 hg1).rounds
 exact freshetlaw05_ExprEvals.calls k A0 c0 L0 A1 c1 L1 a2 true w hr0 hc0 hr1 hc1 ht hk
end Go.Proofs.YtakcjiinchghaaaGreatDoor
end
