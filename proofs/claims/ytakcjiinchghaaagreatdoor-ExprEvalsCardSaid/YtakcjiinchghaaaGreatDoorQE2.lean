/- a part of the claim: what the card leans on, out of the texts E1, Shelf, ShelfB, V1, V2, V9, VF, VQ, V3, V4, V5, V6 (put together by wip/tools/shake.py). -/
import Derived.Lib.Hide
import Derived.Shelf.Strings.Builder1
import Derived.Shelf.Strings.Builder2
import Derived.Shelf.Strings.OnBuilder
import Derived.Shelf.Small.Strs
import Derived.Shelf.Small.Wraps
import Derived.Shelf.Strings.BuilderF
import Derived.Shelf.Strings.BuilderK
import Derived.Shelf.Strings.Builder2Cap
import Derived.Shelf.Strconv.Itoa0
import Derived.Shelf.Strconv.Itoa1
import Derived.Shelf.LaysM
import Derived.Shelf.Strconv.Itoa2
import Derived.Shelf.Strconv.Itoa3
import Derived.Shelf.Strings.Prefix
import Derived.Shelf.Bits.Mul64
import Derived.Shelf.Strings.Repeat
import Derived.Shelf.Strings.BuilderCap
import Derived.Test.YtakcjiinchghaaaGreatDoorProg
import Derived.Shelf.Sort.Plain
import Derived.Ground.Names2Prog
import Derived.Shelf.Slices.CompactI
import Derived.Shelf.Slices.SearchI
import Derived.Shelf.Slices.Cells
import Derived.Shelf.Slices.In.SortNone
import Derived.Test.YtakcjiinchghaaaGreatDoorRows
import Derived.WalkKit
import Derived.WalkSpells
import Derived.WalkLawsBesides
import Derived.Deep.QuietTactic
import Derived.BigQuiet
import Derived.Laws.Externs
import Derived.Lib.Builder
import Derived.Lib.AppendStr
import Derived.Lib.UnsafeStr
import Derived.RegionTactic
import Derived.StillTailTactics
import Derived.Deep.RegionWith
import Derived.Lib.AppendIntMem
import Derived.Lib.ItoaLen
import Derived.Recover
import Derived.Deep.RegionHeld3
section
namespace Go.Proofs.YtakcjiinchghaaaGreatDoor
set_option linter.unusedVariables false
set_option linter.unusedSimpArgs false
/-- one step: two of the stack, one of it, or none -/
def mstep {D T : Type} (cod : D → Int) (n0 : D → T) (n1 : D → T → T) (n2 : D → T → T → T) (st : List T) (d : D) : List T :=
 if 10 ≤ cod d then (match st with | b :: a :: r=>n2 d a b :: r | _=>st) else if 3 ≤ cod d then (match st with | a :: r=>n1 d a :: r | []=>[]) else n0 d :: st
def mrun {D T : Type} (cod : D → Int) (n0 : D → T) (n1 : D → T → T) (n2 : D → T → T → T) (e : List D) (st : List T) : List T:=e.foldl (mstep cod n0 n1 n2) st
/-- the stack's height, so long as there is enough on it -/
def mh {D : Type} (tk : D → Int) : List D → Int → Option Int
 | [],h=>some h
 | d :: e,h=>if tk d < 0 ∨ h < tk d then none else mh tk e (h + 1 - tk d)
/-- how many a step takes, told by its code -/
def TkOk {D : Type} (cod tk : D → Int) : Prop:=∀ d,tk d < 0 ∨ (tk d = 0 ∧ cod d < 3) ∨ (tk d = 1 ∧ 3 ≤ cod d ∧ cod d < 10) ∨ (tk d = 2 ∧ 10 ≤ cod d)
section
variable {D T : Type} {cod tk : D → Int} {n0 : D → T} {n1 : D → T → T} {n2 : D → T → T → T}
theorem mrun_cons (d : D) (e : List D) (st : List T) : mrun cod n0 n1 n2 (d :: e) st = mrun cod n0 n1 n2 e (mstep cod n0 n1 n2 st d):=rfl
theorem mrun_app (a b : List D) (st : List T) : mrun cod n0 n1 n2 (a ++ b) st = mrun cod n0 n1 n2 b (mrun cod n0 n1 n2 a st):=by unfold mrun;rw [List.foldl_append]
theorem mh_app : ∀ (a b : List D) (h : Int),mh tk (a ++ b) h = (mh tk a h).bind (mh tk b)
 | [],b,h=>rfl
 | d :: a,b,h=>by
  rw [List.cons_append,mh,mh]
  split
  ·rfl
  ·exact mh_app a b _
/-- a step's stack, what lies beneath being left alone -/
theorem mstep_frame (ok : TkOk cod tk) (d : D) (st r : List T) (h0 : ¬ tk d < 0) (h : tk d ≤ (st.length : Int)) :
  mstep cod n0 n1 n2 (st ++ r) d = mstep cod n0 n1 n2 st d ++ r ∧ ((mstep cod n0 n1 n2 st d).length : Int) = (st.length : Int) + 1 - tk d:=by
 unfold mstep
 rcases ok d with h1 | ⟨h1,h2⟩ | ⟨h1,h2,h3⟩ | ⟨h1,h2⟩
 ·exact absurd h1 h0
 ·rw [if_neg (by omega),if_neg (by omega),if_neg (by omega),if_neg (by omega)]
  exact ⟨rfl,by simp;omega⟩
 ·rw [if_neg (by omega),if_pos h2,if_neg (by omega),if_pos h2]
  match st,h with
  | [],h=>simp at h;omega
  | a :: s,h=>exact ⟨rfl,by simp;omega⟩
 ·rw [if_pos h2,if_pos h2]
  match st,h with
  | [],h=>simp at h;omega
  | [a],h=>simp at h;omega
  | b :: a :: s,h=>exact ⟨rfl,by simp;omega⟩
theorem mrun_frame (ok : TkOk cod tk) : ∀ (e : List D) (st r : List T) (m : Int),mh tk e (st.length : Int) = some m →
  mrun cod n0 n1 n2 e (st ++ r) = mrun cod n0 n1 n2 e st ++ r ∧ ((mrun cod n0 n1 n2 e st).length : Int) = m
 | [],st,r,m,h=>by cases h;exact ⟨rfl,rfl⟩
 | d :: e,st,r,m,h=>by
  rw [mh] at h
  split at h
  ·cases h
  ·rename_i hn
   obtain ⟨f1,f2⟩:=mstep_frame (n0:=n0) (n1:=n1) (n2:=n2) ok d st r (by omega) (by omega)
   rw [mrun_cons,mrun_cons,f1]
   exact mrun_frame ok e _ r m (by rw [f2];exact h)
/-- what a sound row of steps leaves: one thing, on top of what was there -/
theorem mrun_one (ok : TkOk cod tk) {e : List D} (h : mh tk e 0 = some 1) : ∃ x,mrun cod n0 n1 n2 e [] = [x] ∧ ∀ r,mrun cod n0 n1 n2 e r = x :: r:=by
 have h1:=mrun_frame (n0:=n0) (n1:=n1) (n2:=n2) ok e [] [] 1 h
 match hx : mrun cod n0 n1 n2 e [],h1.2 with
 | [x],_ =>
  refine ⟨x,rfl,fun r=>?_⟩
  have:=(mrun_frame (n0:=n0) (n1:=n1) (n2:=n2) ok e [] r 1 h).1
  rw [List.nil_append,hx] at this
  exact this
 | [],h2=>simp at h2
 | a :: b :: c,h2=>simp at h2;omega
end
end Go.Proofs.YtakcjiinchghaaaGreatDoor
end
section
namespace Go.Proofs
open Go.Shelf
def Tryz.lays169_ren : Go.Shelf.Ren:=⟨fun | 169=>91 | n=>n,fun | 70=>119 | 9=>9 | 0=>0 | 72=>122 | 37=>120 | 127=>169 | 3=>3 | 5=>5 | n=>n,fun | n=>n⟩
theorem Tryz.lays169 : Go.Proofs.Lays.n169 Tryz.prog Tryz.lays169_ren:={
 mixed:=by kernel_rfl
 f169:=Tryz.func91.trans (congrArg some (by kernel_rfl))
 t0:=Tryz.underlying0
 a0:=Tryz.isAgg0
 z0:=Tryz.sizeOf0
 v0:=Tryz.zeroValue0
 t3:=Tryz.underlying3
 a3:=Tryz.isAgg3
 z3:=Tryz.sizeOf3
 v3:=Tryz.zeroValue3
 t9:=Tryz.underlying9
 a9:=Tryz.isAgg9
 z9:=Tryz.sizeOf9
 v9:=Tryz.zeroValue9
 t37:=Tryz.underlying120
 a37:=Tryz.isAgg120
 z37:=Tryz.sizeOf120
 v37:=Tryz.zeroValue120
 t70:=Tryz.underlying119
 a70:=Tryz.isAgg119
 z70:=Tryz.sizeOf119
 v70:=Tryz.zeroValue119
 t72:=Tryz.underlying122
 a72:=Tryz.isAgg122
 z72:=Tryz.sizeOf122
 v72:=Tryz.zeroValue122
 t127:=Tryz.underlying169
 a127:=Tryz.isAgg169
 z127:=Tryz.sizeOf169
 v127:=Tryz.zeroValue169 }
theorem Tryz.Builder_Extra_169 : Builder.Extra Tryz.prog Tryz.lays169_ren:={
 sizeBuilder:=by kernel_rfl
 liesBuilder:=by kernel_rfl
 t5:=Tryz.underlying5
 a5:=Tryz.isAgg5
 z5:=Tryz.sizeOf5
 v5:=Tryz.zeroValue5
 infoByte:=by kernel_rfl
 cellsByte:=by kernel_rfl
 sizeByte:=by kernel_rfl
 neB5:=by decide }
open Go.RowKit in
/-- (*strings.Builder).String: "String returns the accumulated string.": WHATEVER THE BUILDER HOLDS. (LAID: no walk: one application.) -/
theorem Tryz.Builder_String_any (B b : Nat) (l : List UInt8) (w : World) (h : Lib.IsBuilder 122 5 B b (Lib.byteCells l) w) (hBw : B ≤ w.heap.size) :
  Calls Tryz.prog 91 #[.pointer (some ⟨b,0,none⟩)] w fun e w'=>e = .returned (.string ⟨l.toArray⟩) ∧ Below B w w':=Any.Builder_String_any Tryz.lays169 Tryz.Builder_Extra_169 B b l w h hBw
def Tryz.lays156_ren : Go.Shelf.Ren:=⟨fun | 156=>52 | 165=>89 | 166=>90 | 169=>91 | 240=>137 | 241=>138 | 276=>160 | 277=>161 | n=>n,fun | 31=>82 | 9=>9 | 3=>3 | 4=>4 | 0=>0 | 20=>20 | 72=>122 | 76=>126 | 70=>119 | 37=>120 | 75=>125 | 127=>169 | 164=>191 | 5=>5 | 80=>128 | n=>n,fun | n=>n⟩
theorem Tryz.lays156 : Go.Proofs.Lays.n156 Tryz.prog Tryz.lays156_ren:={
 mixed:=by kernel_rfl
 f156:=Tryz.func52.trans (congrArg some (by kernel_rfl))
 f165:=Tryz.func89.trans (congrArg some (by kernel_rfl))
 f166:=Tryz.func90.trans (congrArg some (by kernel_rfl))
 f169:=Tryz.func91.trans (congrArg some (by kernel_rfl))
 f240:=Tryz.func137.trans (congrArg some (by kernel_rfl))
 f241:=Tryz.func138.trans (congrArg some (by kernel_rfl))
 f276:=Tryz.func160.trans (congrArg some (by kernel_rfl))
 f277:=Tryz.func161.trans (congrArg some (by kernel_rfl))
 t0:=Tryz.underlying0
 a0:=Tryz.isAgg0
 z0:=Tryz.sizeOf0
 v0:=Tryz.zeroValue0
 t3:=Tryz.underlying3
 a3:=Tryz.isAgg3
 z3:=Tryz.sizeOf3
 v3:=Tryz.zeroValue3
 t4:=Tryz.underlying4
 a4:=Tryz.isAgg4
 z4:=Tryz.sizeOf4
 v4:=Tryz.zeroValue4
 t9:=Tryz.underlying9
 a9:=Tryz.isAgg9
 z9:=Tryz.sizeOf9
 v9:=Tryz.zeroValue9
 t20:=Tryz.underlying20
 a20:=Tryz.isAgg20
 z20:=Tryz.sizeOf20
 v20:=Tryz.zeroValue20
 t31:=Tryz.underlying82
 a31:=Tryz.isAgg82
 z31:=Tryz.sizeOf82
 v31:=Tryz.zeroValue82
 t37:=Tryz.underlying120
 a37:=Tryz.isAgg120
 z37:=Tryz.sizeOf120
 v37:=Tryz.zeroValue120
 t70:=Tryz.underlying119
 a70:=Tryz.isAgg119
 z70:=Tryz.sizeOf119
 v70:=Tryz.zeroValue119
 t72:=Tryz.underlying122
 a72:=Tryz.isAgg122
 z72:=Tryz.sizeOf122
 v72:=Tryz.zeroValue122
 t75:=Tryz.underlying125
 a75:=Tryz.isAgg125
 z75:=Tryz.sizeOf125
 v75:=Tryz.zeroValue125
 t76:=Tryz.underlying126
 a76:=Tryz.isAgg126
 z76:=Tryz.sizeOf126
 v76:=Tryz.zeroValue126
 t127:=Tryz.underlying169
 a127:=Tryz.isAgg169
 z127:=Tryz.sizeOf169
 v127:=Tryz.zeroValue169
 t164:=Tryz.underlying191
 a164:=Tryz.isAgg191
 z164:=Tryz.sizeOf191
 v164:=Tryz.zeroValue191 }
theorem Tryz.Builder_Extra_156 : Builder.Extra Tryz.prog Tryz.lays156_ren:={
 sizeBuilder:=by kernel_rfl
 liesBuilder:=by kernel_rfl
 t5:=Tryz.underlying5
 a5:=Tryz.isAgg5
 z5:=Tryz.sizeOf5
 v5:=Tryz.zeroValue5
 infoByte:=by kernel_rfl
 cellsByte:=by kernel_rfl
 sizeByte:=by kernel_rfl
 neB5:=by decide }
open Go.RowKit in
/-- No element: the empty string; the world is as it was. (Whatever the slice's address and capacity: a nil slice too.) (LAID: no walk: one application.) -/
theorem Tryz.strings_Join_none (a : Option Addr) (c : Nat) (sep : ByteArray) (w : World) :
  Calls Tryz.prog 52 #[.slice a 0 c,.string sep] w fun e w'=>e = .returned (.string ⟨#[]⟩) ∧ w' = w:=Any.strings_Join_none Tryz.lays156 Tryz.Builder_Extra_156 a c sep w
open Go.RowKit in
/-- strings.Join: "Join concatenates the elements of its first argument to create a single string. The separator string sep is placed between elements in the resulting string.": HOWEVER MANY ELEMENTS. Below the heap's end the world is as it was. (LAID: no walk: one application.) -/
theorem Tryz.strings_Join (bk o c : Nat) (xs : List ByteArray) (sep : ByteArray) (w : World) (hcells : ∀ (j : Nat) x,xs[j]? = some x → w.cell? ⟨bk,o + j,none⟩ = some (.string x)) (hbk : bk < w.heap.size) (hN : xs.length ≤ 140737488355328) (hcap : xs.length ≤ c) (hlen : (Lib.join (xs.map (·.data.toList)) sep.data.toList).length ≤ 140737488355328) :
  Calls Tryz.prog 52 #[.slice (some ⟨bk,o,none⟩) xs.length c,.string sep] w fun e w'=>e = .returned (.string ⟨(Lib.join (xs.map (·.data.toList)) sep.data.toList).toArray⟩) ∧ Below w.heap.size w w':=Any.strings_Join Tryz.lays156 Tryz.Builder_Extra_156 bk o c xs sep w hcells hbk hN hcap hlen
def Tryz.lays106_ren : Go.Shelf.Ren:=⟨fun | 106=>142 | 213=>165 | 265=>175 | n=>n,fun | 9=>9 | 3=>3 | n=>n,fun | n=>n⟩
theorem Tryz.lays106 : Go.Proofs.Lays.n106 Tryz.prog Tryz.lays106_ren:={
 mixed:=by kernel_rfl
 f106:=Tryz.func142.trans (congrArg some (by kernel_rfl))
 f213:=Tryz.func165.trans (congrArg some (by kernel_rfl))
 f265:=Tryz.func175.trans (congrArg some (by kernel_rfl))
 t3:=Tryz.underlying3
 a3:=Tryz.isAgg3
 z3:=Tryz.sizeOf3
 v3:=Tryz.zeroValue3
 t9:=Tryz.underlying9
 a9:=Tryz.isAgg9
 z9:=Tryz.sizeOf9
 v9:=Tryz.zeroValue9 }
open Go.RowKit in
/-- strings.Compare: "Compare returns an integer comparing two strings lexicographically. The result will be 0 if a == b, -1 if a < b, and +1 if a > b.": IT RETURNS 'Lib.compareBytes a b'; the world is as it was. (LAID: no walk: one application.) -/
theorem Tryz.strings_Compare (a b : ByteArray) (w : World) :
  Calls Tryz.prog 142 #[.string a,.string b] w fun e w'=>e = .returned (.int .i64 (Lib.compareBytes a.data.toList b.data.toList)) ∧ w' = w:=Any.strings_Compare Tryz.lays106 a b w
def Tryz.lays121_ren : Go.Shelf.Ren:=⟨fun | 121=>85 | 214=>130 | n=>n,fun | 4=>4 | 9=>9 | n=>n,fun | n=>n⟩
theorem Tryz.lays121 : Go.Proofs.Lays.n121 Tryz.prog Tryz.lays121_ren:={
 mixed:=by kernel_rfl
 f121:=Tryz.func85.trans (congrArg some (by kernel_rfl))
 f214:=Tryz.func130.trans (congrArg some (by kernel_rfl))
 t4:=Tryz.underlying4
 a4:=Tryz.isAgg4
 z4:=Tryz.sizeOf4
 v4:=Tryz.zeroValue4
 t9:=Tryz.underlying9
 a9:=Tryz.isAgg9
 z9:=Tryz.sizeOf9
 v9:=Tryz.zeroValue9 }
open Go.RowKit in
/-- strconv.FormatBool: "FormatBool returns "true" or "false" according to the value of b.": IT RETURNS 'Lib.formatBool b'; the world is as it was. (LAID: no walk: one application.) -/
theorem Tryz.strconv_FormatBool (b : Bool) (w : World) :
  Calls Tryz.prog 85 #[.bool b] w fun e w'=>e = .returned (.string ⟨(Lib.formatBool b).toArray⟩) ∧ w' = w:=Any.strconv_FormatBool Tryz.lays121 b w
def Tryz.lays122_ren : Go.Shelf.Ren:=⟨fun | 122=>140 | 215=>152 | n=>n,fun | 3=>3 | 4=>4 | n=>n,fun | n=>n⟩
theorem Tryz.lays122 : Go.Proofs.Lays.n122 Tryz.prog Tryz.lays122_ren:={
 mixed:=by kernel_rfl
 f122:=Tryz.func140.trans (congrArg some (by kernel_rfl))
 f215:=Tryz.func152.trans (congrArg some (by kernel_rfl))
 t3:=Tryz.underlying3
 a3:=Tryz.isAgg3
 z3:=Tryz.sizeOf3
 v3:=Tryz.zeroValue3
 t4:=Tryz.underlying4
 a4:=Tryz.isAgg4
 z4:=Tryz.sizeOf4
 v4:=Tryz.zeroValue4 }
open Go.RowKit in
/-- cmp.Compare at int: "Compare returns -1 if x is less than y, 0 if x equals y, +1 if x is greater than y.": IT RETURNS 'Lib.compareInt x y'; the world is as it was. (LAID: no walk: one application.) -/
theorem Tryz.cmp_Compare_int (x y : Int) (w : World) :
  Calls Tryz.prog 140 #[.int .i64 x,.int .i64 y] w fun e w'=>e = .returned (.int .i64 (Lib.compareInt x y)) ∧ w' = w:=Any.cmp_Compare_int Tryz.lays122 x y w
def Tryz.laysM171_ren : Go.Shelf.Ren:=⟨fun | 171=>50 | 243=>84 | 246=>129 | 283=>153 | 284=>154 | 285=>155 | 286=>156 | 129=>128 | 317=>168 | 318=>169 | 319=>170 | 320=>171 | 337=>176 | 338=>177 | n=>n,fun | 3=>3 | 9=>9 | 2=>2 | 4=>4 | 171=>183 | 0=>0 | 53=>27 | 37=>120 | 5=>5 | 173=>185 | 212=>200 | 51=>160 | 20=>20 | 213=>201 | 46=>114 | 232=>204 | 233=>205 | n=>n,fun | 17=>1 | 18=>3 | 19=>4 | n=>n⟩
theorem Tryz.laysM171 : Go.Proofs.LaysM.n171 Tryz.prog Tryz.laysM171_ren:={
 mixed:=by kernel_rfl
 f129:=Tryz.func128.trans (congrArg some (by kernel_rfl))
 f171:=Tryz.func50.trans (congrArg some (by kernel_rfl))
 f243:=Tryz.func84.trans (congrArg some (by kernel_rfl))
 f246:=Tryz.func129.trans (congrArg some (by kernel_rfl))
 f283:=Tryz.func153.trans (congrArg some (by kernel_rfl))
 f284:=Tryz.func154.trans (congrArg some (by kernel_rfl))
 f285:=Tryz.func155.trans (congrArg some (by kernel_rfl))
 f286:=Tryz.func156.trans (congrArg some (by kernel_rfl))
 f317:=Tryz.func168.trans (congrArg some (by kernel_rfl))
 f318:=Tryz.func169.trans (congrArg some (by kernel_rfl))
 f319:=Tryz.func170.trans (congrArg some (by kernel_rfl))
 f320:=Tryz.func171.trans (congrArg some (by kernel_rfl))
 f337:=Tryz.func176.trans (congrArg some (by kernel_rfl))
 f338:=Tryz.func177.trans (congrArg some (by kernel_rfl))
 t0:=Tryz.underlying0
 a0:=Tryz.isAgg0
 z0:=Tryz.sizeOf0
 v0:=Tryz.zeroValue0
 t2:=Tryz.underlying2
 a2:=Tryz.isAgg2
 z2:=Tryz.sizeOf2
 v2:=Tryz.zeroValue2
 t3:=Tryz.underlying3
 a3:=Tryz.isAgg3
 z3:=Tryz.sizeOf3
 v3:=Tryz.zeroValue3
 t4:=Tryz.underlying4
 a4:=Tryz.isAgg4
 z4:=Tryz.sizeOf4
 v4:=Tryz.zeroValue4
 t5:=Tryz.underlying5
 a5:=Tryz.isAgg5
 z5:=Tryz.sizeOf5
 v5:=Tryz.zeroValue5
 t9:=Tryz.underlying9
 a9:=Tryz.isAgg9
 z9:=Tryz.sizeOf9
 v9:=Tryz.zeroValue9
 t20:=Tryz.underlying20
 a20:=Tryz.isAgg20
 z20:=Tryz.sizeOf20
 v20:=Tryz.zeroValue20
 t37:=Tryz.underlying120
 a37:=Tryz.isAgg120
 z37:=Tryz.sizeOf120
 v37:=Tryz.zeroValue120
 t46:=Tryz.underlying114
 a46:=Tryz.isAgg114
 z46:=Tryz.sizeOf114
 v46:=Tryz.zeroValue114
 t51:=Tryz.underlying160
 a51:=Tryz.isAgg160
 z51:=Tryz.sizeOf160
 v51:=Tryz.zeroValue160
 t53:=Tryz.underlying27
 a53:=Tryz.isAgg27
 z53:=Tryz.sizeOf27
 v53:=Tryz.zeroValue27
 t171:=Tryz.underlying183
 a171:=Tryz.isAgg183
 z171:=Tryz.sizeOf183
 v171:=Tryz.zeroValue183
 t173:=Tryz.underlying185
 a173:=Tryz.isAgg185
 z173:=Tryz.sizeOf185
 v173:=Tryz.zeroValue185
 t212:=Tryz.underlying200
 a212:=Tryz.isAgg200
 z212:=Tryz.sizeOf200
 v212:=Tryz.zeroValue200
 t213:=Tryz.underlying201
 a213:=Tryz.isAgg201
 z213:=Tryz.sizeOf201
 t232:=Tryz.underlying204
 a232:=Tryz.isAgg204
 z232:=Tryz.sizeOf204
 v232:=Tryz.zeroValue204
 t233:=Tryz.underlying205
 a233:=Tryz.isAgg205
 z233:=Tryz.sizeOf205
 v233:=Tryz.zeroValue205
 g17:=by kernel_rfl
 g18:=by kernel_rfl
 g19:=by kernel_rfl
 i0:=by kernel_rfl
 i2:=by kernel_rfl
 i3:=by kernel_rfl
 i4:=by kernel_rfl
 i5:=by kernel_rfl
 i9:=by kernel_rfl
 i20:=by kernel_rfl
 i37:=by kernel_rfl
 i46:=by kernel_rfl
 i51:=by kernel_rfl
 i53:=by kernel_rfl
 i171:=by kernel_rfl
 i173:=by kernel_rfl
 i212:=by kernel_rfl
 i232:=by kernel_rfl
 i233:=by kernel_rfl
 m17:=by kernel_rfl
 m18:=by kernel_rfl
 m19:=by kernel_rfl }
open Go.RowKit Go.Sort Go.Lib in
/-- strconv.Itoa: "Itoa is equivalent to FormatInt(int64(i), 10).": i's DECIMAL NUMERAL ('Lib.itoa': a '-' where i is negative, then the digits), FOR EVERY int. The world behind the call: the world before it, new blocks behind the heap (the library's 'var a [24]byte'), draws. (LAID: no walk: one application.) -/
theorem Tryz.strconv_Itoa (n : Int) (h0 : -9223372036854775808 ≤ n) (h1 : n ≤ 9223372036854775807) (w : World) (htab : Lib.TabIs Tryz.prog w "internal/strconv.uint64pow10" .u64 Lib.pow10Tab) :
  Calls Tryz.prog 50 #[.int .i64 n] w fun e w'=>e = .returned (.string ⟨(Lib.itoa n).toArray⟩) ∧ ∃ k os,w' = grow (w.drewN k) os:=Any.strconv_Itoa Tryz.laysM171 n h0 h1 w htab
def Tryz.lays264_ren : Go.Shelf.Ren:=⟨fun | 264=>158 | n=>n,fun | 53=>27 | 46=>114 | n=>n,fun | n=>n⟩
theorem Tryz.lays264 : Go.Proofs.Lays.n264 Tryz.prog Tryz.lays264_ren:={
 mixed:=by kernel_rfl
 f264:=Tryz.func158.trans (congrArg some (by kernel_rfl))
 t46:=Tryz.underlying114
 a46:=Tryz.isAgg114
 z46:=Tryz.sizeOf114
 v46:=Tryz.zeroValue114
 t53:=Tryz.underlying27
 a53:=Tryz.isAgg27
 z53:=Tryz.sizeOf27
 v53:=Tryz.zeroValue27 }
open Go.RowKit Go.Lib in
theorem Tryz.bits_Mul64 (x y : Nat) (hx : x < 18446744073709551616) (hy : y < 18446744073709551616) (w : World) :
  Calls Tryz.prog 158 #[.int .u64 x,.int .u64 y] w fun e w'=>e = .returned (.tuple #[.int .u64 ((x * y / 18446744073709551616 : Nat) : Int),.int .u64 ((x * y % 18446744073709551616 : Nat) : Int)]) ∧ w' = w:=Any.bits_Mul64 Tryz.lays264 x y hx hy w
def Tryz.lays105_ren : Go.Shelf.Ren:=⟨fun | 105=>88 | 212=>134 | 99=>135 | 165=>89 | 166=>90 | 170=>136 | 169=>91 | 263=>157 | 264=>158 | 206=>159 | 240=>137 | 241=>138 | 276=>160 | 277=>161 | n=>n,fun | 9=>9 | 3=>3 | 4=>4 | 20=>20 | 0=>0 | 46=>114 | 109=>165 | 5=>5 | 72=>122 | 76=>126 | 51=>160 | 146=>187 | 53=>27 | 148=>189 | 70=>119 | 37=>120 | 75=>125 | 127=>169 | 164=>191 | 80=>128 | n=>n,fun | n=>n⟩
theorem Tryz.lays105 : Go.Proofs.Lays.n105 Tryz.prog Tryz.lays105_ren:={
 mixed:=by kernel_rfl
 f99:=Tryz.func135.trans (congrArg some (by kernel_rfl))
 f105:=Tryz.func88.trans (congrArg some (by kernel_rfl))
 f165:=Tryz.func89.trans (congrArg some (by kernel_rfl))
 f166:=Tryz.func90.trans (congrArg some (by kernel_rfl))
 f169:=Tryz.func91.trans (congrArg some (by kernel_rfl))
 f170:=Tryz.func136.trans (congrArg some (by kernel_rfl))
 f206:=Tryz.func159.trans (congrArg some (by kernel_rfl))
 f212:=Tryz.func134.trans (congrArg some (by kernel_rfl))
 f240:=Tryz.func137.trans (congrArg some (by kernel_rfl))
 f241:=Tryz.func138.trans (congrArg some (by kernel_rfl))
 f263:=Tryz.func157.trans (congrArg some (by kernel_rfl))
 f264:=Tryz.func158.trans (congrArg some (by kernel_rfl))
 f276:=Tryz.func160.trans (congrArg some (by kernel_rfl))
 f277:=Tryz.func161.trans (congrArg some (by kernel_rfl))
 t0:=Tryz.underlying0
 a0:=Tryz.isAgg0
 z0:=Tryz.sizeOf0
 v0:=Tryz.zeroValue0
 t3:=Tryz.underlying3
 a3:=Tryz.isAgg3
 z3:=Tryz.sizeOf3
 v3:=Tryz.zeroValue3
 t4:=Tryz.underlying4
 a4:=Tryz.isAgg4
 z4:=Tryz.sizeOf4
 v4:=Tryz.zeroValue4
 t5:=Tryz.underlying5
 a5:=Tryz.isAgg5
 z5:=Tryz.sizeOf5
 v5:=Tryz.zeroValue5
 t9:=Tryz.underlying9
 a9:=Tryz.isAgg9
 z9:=Tryz.sizeOf9
 v9:=Tryz.zeroValue9
 t20:=Tryz.underlying20
 a20:=Tryz.isAgg20
 z20:=Tryz.sizeOf20
 v20:=Tryz.zeroValue20
 t37:=Tryz.underlying120
 a37:=Tryz.isAgg120
 z37:=Tryz.sizeOf120
 v37:=Tryz.zeroValue120
 t46:=Tryz.underlying114
 a46:=Tryz.isAgg114
 z46:=Tryz.sizeOf114
 v46:=Tryz.zeroValue114
 t51:=Tryz.underlying160
 a51:=Tryz.isAgg160
 z51:=Tryz.sizeOf160
 v51:=Tryz.zeroValue160
 t53:=Tryz.underlying27
 a53:=Tryz.isAgg27
 z53:=Tryz.sizeOf27
 v53:=Tryz.zeroValue27
 t70:=Tryz.underlying119
 a70:=Tryz.isAgg119
 z70:=Tryz.sizeOf119
 v70:=Tryz.zeroValue119
 t72:=Tryz.underlying122
 a72:=Tryz.isAgg122
 z72:=Tryz.sizeOf122
 v72:=Tryz.zeroValue122
 t75:=Tryz.underlying125
 a75:=Tryz.isAgg125
 z75:=Tryz.sizeOf125
 v75:=Tryz.zeroValue125
 t76:=Tryz.underlying126
 a76:=Tryz.isAgg126
 z76:=Tryz.sizeOf126
 v76:=Tryz.zeroValue126
 t109:=Tryz.underlying165
 a109:=Tryz.isAgg165
 z109:=Tryz.sizeOf165
 v109:=Tryz.zeroValue165
 t127:=Tryz.underlying169
 a127:=Tryz.isAgg169
 z127:=Tryz.sizeOf169
 v127:=Tryz.zeroValue169
 t146:=Tryz.underlying187
 a146:=Tryz.isAgg187
 z146:=Tryz.sizeOf187
 v146:=Tryz.zeroValue187
 t148:=Tryz.underlying189
 a148:=Tryz.isAgg189
 z148:=Tryz.sizeOf189
 v148:=Tryz.zeroValue189
 t164:=Tryz.underlying191
 a164:=Tryz.isAgg191
 z164:=Tryz.sizeOf191
 v164:=Tryz.zeroValue191 }
theorem Tryz.Builder_Extra_105 : Builder.Extra Tryz.prog Tryz.lays105_ren:={
 sizeBuilder:=by kernel_rfl
 liesBuilder:=by kernel_rfl
 t5:=Tryz.underlying5
 a5:=Tryz.isAgg5
 z5:=Tryz.sizeOf5
 v5:=Tryz.zeroValue5
 infoByte:=by kernel_rfl
 cellsByte:=by kernel_rfl
 sizeByte:=by kernel_rfl
 neB5:=by decide }
open Go.RowKit Go.Lib in
/-- **strings.Repeat: count ≥ 0, the result within one allocation: count copies of s.** (LAID: no walk: one application.) -/
theorem Tryz.strings_Repeat (s : ByteArray) (c : Nat) (w : World) (hc : c ≤ 9223372036854775807) (hlen : s.size * c ≤ 140737488355328) :
  Calls Tryz.prog 88 #[.string s,.int .i64 c] w fun e w'=>e = .returned (.string ⟨(Lib.repeatL s.data.toList c).toArray⟩) ∧ Below w.heap.size w w':=Any.strings_Repeat Tryz.lays105 Tryz.Builder_Extra_105 s c w hc hlen
end Go.Proofs
end
section
namespace Go.Proofs
open Go.Shelf
def Tryz.lays189_ren : Go.Shelf.Ren:=⟨fun | 189=>47 | 125=>83 | 257=>82 | 128=>127 | 129=>128 | 294=>118 | 295=>119 | 296=>120 | 297=>121 | 298=>122 | 299=>123 | 216=>124 | 300=>125 | 301=>126 | 328=>147 | 329=>148 | 330=>149 | 331=>150 | 332=>151 | 215=>152 | 343=>167 | n=>n,fun | 28=>39 | 3=>3 | 46=>114 | 0=>0 | 51=>160 | 53=>27 | 4=>4 | 183=>153 | 182=>152 | 131=>157 | 5=>5 | 9=>9 | 218=>176 | 222=>180 | 228=>195 | 229=>196 | n=>n,fun | n=>n⟩
theorem Tryz.lays189 : Go.Proofs.Lays.n189 Tryz.prog Tryz.lays189_ren:={
 mixed:=by kernel_rfl
 f125:=Tryz.func83.trans (congrArg some (by kernel_rfl))
 f128:=Tryz.func127.trans (congrArg some (by kernel_rfl))
 f129:=Tryz.func128.trans (congrArg some (by kernel_rfl))
 f189:=Tryz.func47.trans (congrArg some (by kernel_rfl))
 f215:=Tryz.func152.trans (congrArg some (by kernel_rfl))
 f216:=Tryz.func124.trans (congrArg some (by kernel_rfl))
 f257:=Tryz.func82.trans (congrArg some (by kernel_rfl))
 f294:=Tryz.func118.trans (congrArg some (by kernel_rfl))
 f295:=Tryz.func119.trans (congrArg some (by kernel_rfl))
 f296:=Tryz.func120.trans (congrArg some (by kernel_rfl))
 f297:=Tryz.func121.trans (congrArg some (by kernel_rfl))
 f298:=Tryz.func122.trans (congrArg some (by kernel_rfl))
 f299:=Tryz.func123.trans (congrArg some (by kernel_rfl))
 f300:=Tryz.func125.trans (congrArg some (by kernel_rfl))
 f301:=Tryz.func126.trans (congrArg some (by kernel_rfl))
 f328:=Tryz.func147.trans (congrArg some (by kernel_rfl))
 f329:=Tryz.func148.trans (congrArg some (by kernel_rfl))
 f330:=Tryz.func149.trans (congrArg some (by kernel_rfl))
 f331:=Tryz.func150.trans (congrArg some (by kernel_rfl))
 f332:=Tryz.func151.trans (congrArg some (by kernel_rfl))
 f343:=Tryz.func167.trans (congrArg some (by kernel_rfl))
 t0:=Tryz.underlying0
 a0:=Tryz.isAgg0
 z0:=Tryz.sizeOf0
 v0:=Tryz.zeroValue0
 t3:=Tryz.underlying3
 a3:=Tryz.isAgg3
 z3:=Tryz.sizeOf3
 v3:=Tryz.zeroValue3
 t4:=Tryz.underlying4
 a4:=Tryz.isAgg4
 z4:=Tryz.sizeOf4
 v4:=Tryz.zeroValue4
 t5:=Tryz.underlying5
 a5:=Tryz.isAgg5
 z5:=Tryz.sizeOf5
 v5:=Tryz.zeroValue5
 t9:=Tryz.underlying9
 a9:=Tryz.isAgg9
 z9:=Tryz.sizeOf9
 v9:=Tryz.zeroValue9
 t28:=Tryz.underlying39
 a28:=Tryz.isAgg39
 z28:=Tryz.sizeOf39
 v28:=Tryz.zeroValue39
 t46:=Tryz.underlying114
 a46:=Tryz.isAgg114
 z46:=Tryz.sizeOf114
 v46:=Tryz.zeroValue114
 t51:=Tryz.underlying160
 a51:=Tryz.isAgg160
 z51:=Tryz.sizeOf160
 v51:=Tryz.zeroValue160
 t53:=Tryz.underlying27
 a53:=Tryz.isAgg27
 z53:=Tryz.sizeOf27
 v53:=Tryz.zeroValue27
 t131:=Tryz.underlying157
 a131:=Tryz.isAgg157
 z131:=Tryz.sizeOf157
 v131:=Tryz.zeroValue157
 t182:=Tryz.underlying152
 a182:=Tryz.isAgg152
 z182:=Tryz.sizeOf152
 v182:=Tryz.zeroValue152
 t183:=Tryz.underlying153
 a183:=Tryz.isAgg153
 z183:=Tryz.sizeOf153
 v183:=Tryz.zeroValue153
 t218:=Tryz.underlying176
 a218:=Tryz.isAgg176
 z218:=Tryz.sizeOf176
 v218:=Tryz.zeroValue176
 t222:=Tryz.underlying180
 a222:=Tryz.isAgg180
 z222:=Tryz.sizeOf180
 v222:=Tryz.zeroValue180
 t228:=Tryz.underlying195
 a228:=Tryz.isAgg195
 z228:=Tryz.sizeOf195
 v228:=Tryz.zeroValue195
 t229:=Tryz.underlying196
 a229:=Tryz.isAgg196
 z229:=Tryz.sizeOf196
 v229:=Tryz.zeroValue196 }
open Go.Sort Go.RowKit in
theorem Tryz.slices_Sort_int (blk off cap : Nat) (zs : List Int) (w : World) (hH : Holds (Value.int .i64) w blk off zs.toArray) (hblk : blk < w.heap.size) (hsz : zs.length < 4611686018427387904) :
  Calls Tryz.prog 47 #[.slice (some ⟨blk,off,none⟩) zs.length cap] w fun e w' =>
   e = .returned (.tuple #[]) ∧ ∃ n os,w' = grow (putRow (Value.int .i64) (Sort.ahead w n) blk off (zs.mergeSort fun x y=>decide (x ≤ y)).toArray) os:=Any.slices_Sort_int Tryz.lays189 blk off cap zs w hH hblk hsz
def Tryz.laysNm220_ren : Go.Shelf.Ren:=⟨fun | 20=>48 | n=>n,fun | 22=>39 | 3=>3 | 4=>4 | 0=>0 | n=>n,fun | n=>n⟩
theorem Tryz.laysNm220 : Go.Proofs.Lays2.n20 Tryz.prog Tryz.laysNm220_ren:={
 mixed:=by kernel_rfl
 f20:=Tryz.func48.trans (congrArg some (by kernel_rfl))
 t0:=Tryz.underlying0
 a0:=Tryz.isAgg0
 z0:=Tryz.sizeOf0
 v0:=Tryz.zeroValue0
 t3:=Tryz.underlying3
 a3:=Tryz.isAgg3
 z3:=Tryz.sizeOf3
 v3:=Tryz.zeroValue3
 t4:=Tryz.underlying4
 a4:=Tryz.isAgg4
 z4:=Tryz.sizeOf4
 v4:=Tryz.zeroValue4
 t22:=Tryz.underlying39
 a22:=Tryz.isAgg39
 z22:=Tryz.sizeOf39
 v22:=Tryz.zeroValue39
 i3:=by kernel_rfl }
open Go.RowKit Go.Lib Go.Sort in
/-- slices.Compact at []int: "Compact replaces consecutive runs of equal elements with a single copy. This is like the uniq command found on Unix. Compact modifies the contents of the slice s and returns the modified slice, which may have a smaller length. Compact zeroes the elements between the new length and the original length. The result preserves the nilness of s.": IT RETURNS THE SLICE CUT TO 'Lib.compact zs'; ITS CELLS HOLD 'Lib.compact zs', THEN ZERO VALUES up to the old length; all else is as it was, but for the count of draws. IN THE WORDS OF slices.Sort's CONTRACT ('Holds', 'putRow'): so the everyday 'slices.Sort(xs); xs = slices.Compact(xs)' goes from the one contract to the other. It asks 'zs.length ≤ cap' (every slice's: the reslicing 's[:k]' looks at it). Length 0, nil: '.._empty'. (LAID: no walk: one application.) -/
theorem Tryz.slices_Compact_int (blk off cap : Nat) (zs : List Int) (w : World) (hH : Holds (Value.int .i64) w blk off zs.toArray) (hsz : zs.length ≤ 9223372036854775807) (hcap : zs.length ≤ cap) :
  Calls Tryz.prog 48 #[.slice (some ⟨blk,off,none⟩) zs.length cap] w fun e w'=>e = .returned (.slice (some ⟨blk,off,none⟩) (Lib.compact zs).length cap) ∧ ∃ q,w' = putRow (Value.int .i64) (Sort.ahead w q) blk off (Lib.compact zs ++ List.replicate (zs.length - (Lib.compact zs).length) 0).toArray:=Any.slices_Compact_int Tryz.laysNm220 blk off cap zs w hH hsz hcap
open Go.RowKit Go.Lib Go.Sort in
/-- The same at a slice of length 0, a nil one too: it comes back as it is. (LAID: no walk: one application.) -/
theorem Tryz.slices_Compact_int_empty (a : Option Addr) (cap : Nat) (w : World) :
  Calls Tryz.prog 48 #[.slice a 0 cap] w fun e w'=>e = .returned (.slice a 0 cap) ∧ w' = w:=Any.slices_Compact_int_empty Tryz.laysNm220 a cap w
open Go.RowKit Go.Sort in
/-- .. and plain. (LAID: no walk: one application.) -/
theorem Tryz.slices_Sort_int_none (p : Option Addr) (cap : Nat) (w : World) :
  Calls Tryz.prog 47 #[.slice p 0 cap] w fun e w'=>e = .returned (.tuple #[]) ∧ w' = w:=Any.slices_Sort_int_none Tryz.lays189 p cap w
end Go.Proofs
end
section
namespace Go.Proofs.YtakcjiinchghaaaGreatDoor
set_option linter.unusedVariables false
set_option linter.unusedSimpArgs false
open Go.RowKit
theorem run_frombits (b : Int) (w : World) : (callFunc 94 #[.int .u64 b]).run Tryz.prog w = .ok (.value (.float .f64 b.toNat)) w:=by
 rw [run_callFunc_extern (e:=Extern.MathFloatBits.float64frombits) Tryz.func94 (by kernel_rfl) (by kernel_rfl) (by kernel_rfl) (by kernel_rfl)]
 rfl
theorem run_tobits (b : Nat) (w : World) : (callFunc 112 #[.float .f64 b]).run Tryz.prog w = .ok (.value (.int .u64 b)) w:=by
 rw [run_callFunc_extern (e:=Extern.MathFloatBits.float64bits) Tryz.func112 (by kernel_rfl) (by kernel_rfl) (by kernel_rfl) (by kernel_rfl)]
 rfl
/-- not equal to itself: a NaN -/
def fNaN (b : Int) : Bool:=FloatKind.f64.format.order b.toNat b.toNat != some .eq
def plainI (b : Int) : Int:=if fNaN b then 0x7ff8000000000000 else if b == 0x8000000000000000 then 0 else b
set_option maxRecDepth 100000 in
set_option maxHeartbeats 400000 in
theorem plain_c (b : Int) (w : World) :
  Calls Tryz.prog 55 #[.int .u64 b] w fun e w'=>e = .returned (.int .u64 (plainI b)) ∧ w' = w:=by
 have h1:=run_frombits
 go_enter Tryz.func55,Tryz.ntmps55
 go_wp2_with fail
 all_goals
  go_ret
  refine ⟨?_,rfl⟩
  congr 2
  simp [plainI,fNaN, *]
/-- equality of two values -/
def eqV (k n f : Int) (t : ByteArray) (k' n' f' : Int) (t' : ByteArray) : Bool:=k == k' && n == n' && f == f' && decide (t = t')
theorem toList_inj (a b : ByteArray) : a.toList = b.toList ↔ a = b:=by
 rw [ByteArray.toList_eq,ByteArray.toList_eq]
 constructor
 ·intro e
  have : a.data = b.data:=Array.toList_inj.1 e
  cases a;cases b;cases this;rfl
 ·rintro rfl;rfl
theorem run_eqV (k n f : Int) (t : ByteArray) (k' n' f' : Int) (t' : ByteArray) (w : World) :
  (binOp .eql 29 (.agg #[.int .i64 k,.int .i64 n,.int .u64 f,.string t]) (.agg #[.int .i64 k',.int .i64 n',.int .u64 f',.string t'])).run Tryz.prog w = .ok (.bool (eqV k n f t k' n' f' t')) w:=by
 simp [go_sem,Tryz.underlying29]
 unfold eqV
 simp only [toList_inj]
 by_cases h1 : k = k' <;> by_cases h2 : n = n' <;> by_cases h3 : f = f' <;> by_cases h4 : t = t' <;> simp [h1,h2,h3,h4]
/-- is it a value? -/
def soundV (k n f : Int) (t : ByteArray) : Bool :=
 if k == 0 then eqV k n f t 0 0 0 ⟨#[]⟩
 else if k == 1 then eqV k n f t 1 n 0 ⟨#[]⟩ && (n == 0 || n == 1)
 else if k == 2 then eqV k n f t 2 n 0 ⟨#[]⟩
 else if k == 3 then eqV k n f t 3 0 f ⟨#[]⟩ && plainI f == f
 else if k == 4 then eqV k n f t 4 0 0 t && decide (t.size ≤ 4096)
 else false
theorem and_one_eq (n : Int) (h1 : -9223372036854775808 ≤ n) (h2 : n ≤ 9223372036854775807) : (n == bits .and .i64 n 1) = (n == 0 || n == 1):=by
 have key : bits .and .i64 n 1 = n % 2:=by
  show IntKind.i64.wrap (((BitVec.ofInt 64 n) &&& (BitVec.ofInt 64 1)).toNat : Int) = n % 2
  rw [BitVec.toNat_and,BitVec.toNat_ofInt,BitVec.toNat_ofInt]
  have e1 : ((1 : Int) % ((2 ^ 64 : Nat) : Int)).toNat = 1:=by decide
  have e2 : ((2 ^ 64 : Nat) : Int) = 18446744073709551616:=by decide
  rw [e1,Nat.and_one_is_mod,e2,IntKind.wrap_i64]
  omega
 rw [key,Bool.eq_iff_iff]
 simp
 omega
theorem bcell {W w1 : World} (hb : Below W.heap.size W w1) : (∀ b o,b < W.heap.size → w1.cell? ⟨b,o,none⟩ = W.cell? ⟨b,o,none⟩) ∧ (∀ b o,b < W.heap.size → w1.frozen? ⟨b,o,none⟩ = W.frozen? ⟨b,o,none⟩) :=
 ⟨fun b o h=>hb.cell (p:=⟨b,o,none⟩) h,fun b o h=>hb.frozen (p:=⟨b,o,none⟩) h⟩
theorem below_via {a W w1 : World} (hb : Below W.heap.size W w1) (h : Below a.heap.size a W) : Below a.heap.size a w1:=h.trans (hb.mono h.size)
theorem below_al {a w : World} (h : Below a.heap.size a w) (o : Obj) : Below a.heap.size a (w.alloc o):=h.alloc h.size o
theorem below_sc {B : Nat} {a w : World} {p : Addr} (hp : B ≤ p.block) (h : Below B a w) (u : Value) : Below B a (w.setCell p u):=h.setCell hp u
theorem below_al2 {B : Nat} {a w : World} (hB : B ≤ w.heap.size) (h : Below B a w) (o : Obj) : Below B a (w.alloc o):=h.alloc hB o
theorem below_undrew {w w' : World} (h : Below w.drew.heap.size w.drew w') : Below w.heap.size w w':=⟨h.os,h.tape,h.output,h.size,h.block⟩
theorem below_undrewN {w w' : World} {n : Nat} (h : Below (w.drewN n).heap.size (w.drewN n) w') : Below w.heap.size w w':=⟨h.os,h.tape,h.output,h.size,h.block⟩
theorem below_box (w : World) (o : Obj) : Below w.heap.size w (w.alloc o):=(Below.refl _ _).alloc (Nat.le_refl _) _
theorem below_box_drewN (w : World) (o : Obj) (n : Nat) : Below w.heap.size w ((w.alloc o).drewN n):=below_drewN (below_box w o) n
/-- a whole number of 64 bits -/
def I64 (n : Int) : Prop:=-9223372036854775808 ≤ n ∧ n ≤ 9223372036854775807
def U64 (n : Int) : Prop:=0 ≤ n ∧ n < 18446744073709551616
theorem cast_le_4096 (a : Nat) : ((a : Int) ≤ 4096) = (a ≤ 4096):=propext ⟨fun h=>by omega,fun h=>by omega⟩
set_option maxRecDepth 100000 in
set_option maxHeartbeats 400000 in
theorem sound_c (k n f : Int) (t : ByteArray) (w : World) (hn : I64 n) :
  Calls Tryz.prog 28 #[.agg #[.int .i64 k,.int .i64 n,.int .u64 f,.string t]] w fun e w'=>e = .returned (.bool (soundV k n f t)) ∧ Below w.heap.size w w':=by
 have h1:=run_eqV
 have h2:=and_one_eq n hn.1 hn.2
 go_enter Tryz.func28,Tryz.ntmps28
 go_wp2_with fail
 any_goals (go_quiet ((go_at_call 55;exact Calls.quiet_of_same (plain_c _ _))))
 all_goals try go_wp2_with fail
 all_goals (clear h1;go_ret;refine ⟨?_,by first | exact below_box _ _ | exact below_box_drewN _ _ _⟩;congr 2;first | (simp [soundV,eqV,cast_le_4096, *];done) | (simp [soundV,eqV, *,Bool.beq_comm (a:=f),Bool.and_assoc,Bool.and_comm];done) | (simp_all [soundV,eqV,cast_le_4096];done) | skip)
set_option maxRecDepth 100000 in
set_option maxHeartbeats 400000 in
theorem must_t (e : Int) (w : World) : Calls Tryz.prog 97 #[.bool true,.int .i64 e] w fun e w'=>e = .returned (.tuple #[]) ∧ w = w':=by
 go_enter Tryz.func97,Tryz.ntmps97
 go_wp2_with fail
 go_end0
 exact ⟨rfl,rfl⟩
/-- what a step gives up with -/
def flt (c : Int) : List PanicEntry:=[{ v:=.iface 133 (.agg #[.int .i64 c]),recovered:=false }]
set_option maxRecDepth 100000 in
set_option maxHeartbeats 400000 in
theorem must_f (c : Int) (w : World) : Calls Tryz.prog 97 #[.bool false,.int .i64 c] w fun e w'=>e = .panicked (flt c) ∧ w = w':=by
 go_enter Tryz.func97,Tryz.ntmps97
 go_wp2_with fail
 exact ⟨rfl,rfl,rfl⟩
def b2i (b : Bool) : Int:=if b then 1 else 0
set_option maxRecDepth 100000 in
set_option maxHeartbeats 400000 in
theorem must_c (b : Bool) (c : Int) (w : World) : Calls Tryz.prog 97 #[.bool b,.int .i64 c] w fun e w'=>(b = true ∧ e = .returned (.tuple #[]) ∨ b = false ∧ e = .panicked (flt c)) ∧ w = w':=by
 cases b
 ·exact (must_f c w).mono fun e w' ⟨h1,h2⟩=>⟨.inr ⟨rfl,h1⟩,h2⟩
 ·exact (must_t c w).mono fun e w' ⟨h1,h2⟩=>⟨.inl ⟨rfl,h1⟩,h2⟩
set_option maxRecDepth 100000 in
set_option maxHeartbeats 400000 in
theorem ofBool_c (b : Bool) (w : World) : Calls Tryz.prog 98 #[.bool b] w fun e w'=>e = .returned (.agg #[.int .i64 1,.int .i64 (b2i b),.int .u64 0,.string ⟨#[]⟩]) ∧ Below w.heap.size w w':=by
 cases b
 all_goals
  go_enter Tryz.func98,Tryz.ntmps98
  go_wp2_with fail
  exact bodyPost_ret (v:=.agg #[.int .i64 1,.int .i64 (b2i _),.int .u64 0,.string ⟨#[]⟩]) (by simp [results,Tryz.results98,go_sem];rfl) rfl ⟨rfl,((Below.refl _ _).alloc (Nat.le_refl _) _).alloc (by simp) _⟩
set_option maxRecDepth 100000 in
set_option maxHeartbeats 400000 in
theorem ofInt_c (n : Int) (w : World) : Calls Tryz.prog 109 #[.int .i64 n] w fun e w'=>e = .returned (.agg #[.int .i64 2,.int .i64 n,.int .u64 0,.string ⟨#[]⟩]) ∧ Below w.heap.size w w':=by
 go_enter Tryz.func109,Tryz.ntmps109
 go_wp2_with fail
 exact bodyPost_ret (v:=.agg #[.int .i64 2,.int .i64 n,.int .u64 0,.string ⟨#[]⟩]) (by simp [results,Tryz.results109,go_sem]) rfl ⟨rfl,below_box _ _⟩
set_option maxRecDepth 100000 in
set_option maxHeartbeats 400000 in
theorem ofFloat_c (b : Int) (w : World) : Calls Tryz.prog 144 #[.int .u64 b] w fun e w'=>e = .returned (.agg #[.int .i64 3,.int .i64 0,.int .u64 (plainI b),.string ⟨#[]⟩]) ∧ Below w.heap.size w w':=by
 go_enter Tryz.func144,Tryz.ntmps144
 go_wp2_with (go_at_call 55;refine (plain_c _ _).mono ?_;rintro e w' ⟨rfl,rfl⟩)
 exact bodyPost_ret (v:=.agg #[.int .i64 3,.int .i64 0,.int .u64 (plainI b),.string ⟨#[]⟩]) (by simp [results,Tryz.results144,go_sem]) rfl ⟨rfl,below_box _ _⟩
set_option maxRecDepth 100000 in
set_option maxHeartbeats 400000 in
theorem of_c (b : Nat) (w : World) : Calls Tryz.prog 106 #[.float .f64 b] w fun e w'=>e = .returned (.agg #[.int .i64 3,.int .i64 0,.int .u64 (plainI b),.string ⟨#[]⟩]) ∧ Below w.heap.size w w':=by
 have h1:=run_tobits
 go_enter Tryz.func106,Tryz.ntmps106
 go_wp2_with (go_at_call 144;refine (ofFloat_c _ _).mono ?_;rintro e w' ⟨rfl,hb⟩;obtain ⟨hc,hf⟩:=bcell hb)
 exact bodyPost_ret (v:=.agg #[.int .i64 3,.int .i64 0,.int .u64 (plainI b),.string ⟨#[]⟩]) (by simp [results,Tryz.results106,go_sem,hc]) rfl ⟨rfl,(by repeat (first | exact Below.refl _ _ | refine below_al ?_ _ | refine Below.setCell ?_ (by first | simp | (simp;omega) | omega) _ | refine below_drewN ?_ _ | refine below_via (by assumption) ?_))⟩
set_option maxRecDepth 100000 in
set_option maxHeartbeats 400000 in
theorem float_c (k n f : Int) (t : ByteArray) (w : World) : Calls Tryz.prog 108 #[.agg #[.int .i64 k,.int .i64 n,.int .u64 f,.string t]] w fun e w'=>e = .returned (.float .f64 f.toNat) ∧ Below w.heap.size w w':=by
 have h1:=run_frombits
 go_enter Tryz.func108,Tryz.ntmps108
 go_wp2_with fail
 go_ret
 exact ⟨rfl,below_box _ _⟩
set_option maxRecDepth 100000 in
set_option maxHeartbeats 400000 in
theorem ofText_c (s : ByteArray) (w : World) : Calls Tryz.prog 143 #[.string s] w fun e w'=>e = .returned (if s.size ≤ 4096 then .tuple #[.agg #[.int .i64 4,.int .i64 0,.int .u64 0,.string s],.int .i64 0] else .tuple #[.agg #[.int .i64 0,.int .i64 0,.int .u64 0,.string ⟨#[]⟩],.int .i64 12]) ∧ Below w.heap.size w w':=by
 by_cases h : s.size ≤ 4096
 ·have h' : ¬ (4096 : Int) < (s.size : Int):=by omega
  rw [if_pos h]
  go_enter Tryz.func143,Tryz.ntmps143
  go_wp2_with fail
  exact bodyPost_ret (v:=.tuple #[.agg #[.int .i64 4,.int .i64 0,.int .u64 0,.string s],.int .i64 0]) (by simp [results,Tryz.results143,go_sem]) rfl ⟨rfl,below_box _ _⟩
 ·have h' : (4096 : Int) < (s.size : Int):=by omega
  rw [if_neg h]
  go_enter Tryz.func143,Tryz.ntmps143
  go_wp2_with fail
  exact bodyPost_ret (v:=.tuple #[.agg #[.int .i64 0,.int .i64 0,.int .u64 0,.string ⟨#[]⟩],.int .i64 12]) (by simp [results,Tryz.results143,go_sem]) rfl ⟨rfl,below_box _ _⟩
end Go.Proofs.YtakcjiinchghaaaGreatDoor
end
section
namespace Go.Proofs.YtakcjiinchghaaaGreatDoor
set_option linter.unusedVariables false
set_option linter.unusedSimpArgs false
open Go.RowKit
/-- A value. -/
structure V where
 k : Int
 n : Int
 f : Int
 t : ByteArray
/-- a value is returned, or the step gives up -/
def OutV (r : Except Int V) (w : World) (e : Ending) (w' : World) : Prop :=
 (match r with | .ok x=>e = .returned (.agg #[.int .i64 x.k,.int .i64 x.n,.int .u64 x.f,.string x.t]) | .error c=>e = .panicked (flt c)) ∧ Below w.heap.size w w'
/-- a number is returned, or the step gives up -/
def OutI (r : Except Int Int) (w : World) (e : Ending) (w' : World) : Prop :=
 (match r with | .ok x=>e = .returned (.int .i64 x) | .error c=>e = .panicked (flt c)) ∧ w = w'
set_option maxRecDepth 100000 in
set_option maxHeartbeats 2000000 in
theorem text_ok (s : ByteArray) (w : World) (h : s.size ≤ 4096) : Calls Tryz.prog 105 #[.string s] w fun e w'=>e = .returned (.agg #[.int .i64 4,.int .i64 0,.int .u64 0,.string s]) ∧ Below w.heap.size w w':=by
 have h0:=ofText_c s
 simp only [if_pos h] at h0
 have H:=Lib.hid h0;clear h0
 go_enter Tryz.func105,Tryz.ntmps105
 go_wp2_with (first | (go_at_call 143;refine (H.out _).mono ?_;rintro e w' ⟨rfl,hb⟩;(try (replace hb:=below_undrew hb));(try (replace hb:=below_undrewN hb));obtain ⟨hc,hf⟩:=bcell hb;(try (have hz0 : w.heap.size < w'.heap.size:=(by have:=hb.size;(try simp at this);omega)));(try (have hz1 : w.heap.size + 1 < w'.heap.size:=(by have:=hb.size;(try simp at this);omega)));(try (have hz2 : w.heap.size + 2 < w'.heap.size:=(by have:=hb.size;(try simp at this);omega)));(try (have hz3 : w.heap.size + 3 < w'.heap.size:=(by have:=hb.size;(try simp at this);omega)))) | (go_at_call 97;refine (must_t _ _).mono ?_;rintro e w' ⟨rfl,rfl⟩))
 exact bodyPost_ret (v:=.agg #[.int .i64 4,.int .i64 0,.int .u64 0,.string s]) (by simp [results,Tryz.results105,go_sem, *]) rfl ⟨rfl,(by repeat (first | (with_reducible exact Below.refl _ _) | (with_reducible refine below_al ?_ _) | (with_reducible refine below_drewN ?_ _) | (with_reducible refine Below.drew ?_) | (with_reducible refine below_via (by assumption) ?_) | (with_reducible refine below_sc ?_ ?_ _;· (first | (simp;done) | (simp;omega) | omega))))⟩
set_option maxRecDepth 100000 in
set_option maxHeartbeats 2000000 in
theorem text_no (s : ByteArray) (w : World) (h : ¬ s.size ≤ 4096) : Calls Tryz.prog 105 #[.string s] w fun e w'=>e = .panicked (flt 12) ∧ Below w.heap.size w w':=by
 have h0:=ofText_c s
 simp only [if_neg h] at h0
 have H:=Lib.hid h0;clear h0
 go_enter Tryz.func105,Tryz.ntmps105
 go_wp2_with (first | (go_at_call 143;refine (H.out _).mono ?_;rintro e w' ⟨rfl,hb⟩;(try (replace hb:=below_undrew hb));(try (replace hb:=below_undrewN hb));obtain ⟨hc,hf⟩:=bcell hb;(try (have hz0 : w.heap.size < w'.heap.size:=(by have:=hb.size;(try simp at this);omega)));(try (have hz1 : w.heap.size + 1 < w'.heap.size:=(by have:=hb.size;(try simp at this);omega)));(try (have hz2 : w.heap.size + 2 < w'.heap.size:=(by have:=hb.size;(try simp at this);omega)));(try (have hz3 : w.heap.size + 3 < w'.heap.size:=(by have:=hb.size;(try simp at this);omega)))) | (go_at_call 97;refine (must_f _ _).mono ?_;rintro e w' ⟨rfl,rfl⟩))
 exact ⟨rfl,rfl,(by repeat (first | (with_reducible exact Below.refl _ _) | (with_reducible refine below_al ?_ _) | (with_reducible refine below_drewN ?_ _) | (with_reducible refine Below.drew ?_) | (with_reducible refine below_via (by assumption) ?_) | (with_reducible refine below_sc ?_ ?_ _;· (first | (simp;done) | (simp;omega) | omega))))⟩
set_option maxRecDepth 100000 in
set_option maxHeartbeats 2000000 in
theorem size_c (n : Int) (w : World) (h : I64 n) : Calls Tryz.prog 166 #[.int .i64 n] w fun e w'=>e = .returned (.int .u64 n.natAbs) ∧ w = w':=by
 obtain ⟨h1,h2⟩:=h
 by_cases hn : n < 0
 ·go_enter Tryz.func166,Tryz.ntmps166
  go_wp2_with fail
  go_ret
  refine ⟨?_,rfl⟩
  have hw : IntKind.u64.wrap (-IntKind.u64.wrap n) = n.natAbs:=by
   simp only [IntKind.wrap_u64]
   omega
  simp [hw]
 ·go_enter Tryz.func166,Tryz.ntmps166
  go_wp2_with fail
  go_ret
  refine ⟨?_,rfl⟩
  have hw : n = n.natAbs:=by omega
  simp [← hw]
set_option maxRecDepth 100000 in
set_option maxHeartbeats 2000000 in
theorem compared_c (code c : Int) (w : World) : Calls Tryz.prog 103 #[.int .i64 code,.int .i64 c] w fun e w'=>e = .returned (.bool (if code == 16 then c == 0 else if code == 17 then c != 0 else if code == 18 then decide (c < 0) else if code == 19 then decide (c ≤ 0) else if code == 20 then decide (0 < c) else decide (0 ≤ c))) ∧ w = w':=by
 go_enter Tryz.func103,Tryz.ntmps103
 go_wp2_with fail
 all_goals (go_ret;refine ⟨?_,rfl⟩;congr 2;try simp [*])
set_option maxRecDepth 100000 in
set_option maxHeartbeats 2000000 in
theorem fits_c (code k : Int) (w : World) : Calls Tryz.prog 102 #[.int .i64 code,.int .i64 k] w fun e w'=>e = .returned (.bool (if k == 0 || (decide (16 ≤ code) && decide (code ≤ 21)) then true else if code == 15 then k == 4 else if code == 14 then k == 2 else k == 2 || k == 3)) ∧ w = w':=by
 by_cases c0 : k = 0 <;> by_cases c1 : 16 ≤ code <;> by_cases c2 : code ≤ 21 <;> by_cases c3 : k = 2
 all_goals
  go_enter Tryz.func102,Tryz.ntmps102
  go_wp2_with fail
  all_goals (go_ret;refine ⟨?_,rfl⟩;congr 2;try (simp [*];try (intros;omega)))
theorem outI_ret {r : Except Int Int} {w : World} {x : Int} (h : r = .ok x) : OutI r w (.returned (.int .i64 x)) w:=by subst h;exact ⟨rfl,rfl⟩
theorem outI_pan {r : Except Int Int} {w : World} {c : Int} (h : r = .error c) : OutI r w (.panicked (flt c)) w:=by subst h;exact ⟨rfl,rfl⟩
theorem outV_ret {r : Except Int V} {w w' : World} {x : V} (h : r = .ok x) (hb : Below w.heap.size w w') : OutV r w (.returned (.agg #[.int .i64 x.k,.int .i64 x.n,.int .u64 x.f,.string x.t])) w':=by subst h;exact ⟨rfl,hb⟩
theorem outV_pan {r : Except Int V} {w w' : World} {c : Int} (h : r = .error c) (hb : Below w.heap.size w w') : OutV r w (.panicked (flt c)) w':=by subst h;exact ⟨rfl,hb⟩
/-- a sum or a difference, if it is a number of 64 bits -/
def fitI (x : Int) : Except Int Int:=if -9223372036854775808 ≤ x ∧ x ≤ 9223372036854775807 then .ok x else .error 11
theorem fitI_ok {x y : Int} (h1 : -9223372036854775808 ≤ x) (h2 : x ≤ 9223372036854775807) (h : y = x) : fitI x = .ok y:=by rw [h,fitI,if_pos ⟨h1,h2⟩]
theorem fitI_no {x : Int} (h : x < -9223372036854775808 ∨ 9223372036854775807 < x) : fitI x = .error 11:=by rw [fitI,if_neg (by omega)]
set_option maxRecDepth 100000 in
set_option maxHeartbeats 2000000 in
theorem sum_c (a b : Int) (less : Bool) (w : World) (ha : I64 a) (hb : I64 b) : Calls Tryz.prog 145 #[.int .i64 a,.int .i64 b,.bool less] w (OutI (fitI (if less then a - b else a + b)) w):=by
 obtain ⟨a1,a2⟩:=ha
 obtain ⟨b1,b2⟩:=hb
 cases less
 all_goals
  by_cases c1 : 0 ≤ a <;> by_cases c2 : 0 ≤ b
 all_goals
  go_enter Tryz.func145,Tryz.ntmps145
  go_wp2_with (first | (go_at_call 97;((with_reducible refine (must_t _ _).mono ?_);rintro e w' ⟨rfl,rfl⟩)) | (go_at_call 97;((with_reducible refine (must_f _ _).mono ?_);rintro e w' ⟨rfl,rfl⟩)) | (go_at_call 97;refine (must_c _ _ _).mono ?_;rintro e w' ⟨(⟨hm,rfl⟩ | ⟨hm,rfl⟩),rfl⟩))
  all_goals first
   | (exfalso;simp at hm;done)
   | (go_ret;(try simp [wrap64] at hm);refine outI_ret (fitI_ok ?_ ?_ ?_) <;> (try simp only [wrap64]) <;> omega)
   | exact ⟨rfl,outI_pan (fitI_no (by simp [wrap64] at hm;omega))⟩
set_option maxRecDepth 100000 in
set_option maxHeartbeats 2000000 in
theorem product_c (a b : Int) (w : World) (ha : I64 a) (hb : I64 b) : Calls Tryz.prog 146 #[.int .i64 a,.int .i64 b] w (OutI (fitI (a * b)) w):=by
 have ha':=ha
 have hb':=hb
 obtain ⟨a1,a2⟩:=ha
 obtain ⟨b1,b2⟩:=hb
 have hm64:=Tryz.bits_Mul64 a.natAbs b.natAbs (by omega) (by omega)
 have H:=Lib.hid hm64;clear hm64
 have hs : (a < 0 ∧ b < 0 ∨ 0 ≤ a ∧ 0 ≤ b) ∧ (a.natAbs : Int) * (b.natAbs : Int) = a * b ∨ (a < 0 ∧ 0 ≤ b ∨ 0 ≤ a ∧ b < 0) ∧ (a.natAbs : Int) * (b.natAbs : Int) = -(a * b):=by
  rcases Int.lt_or_le a 0 with c1 | c1 <;> rcases Int.lt_or_le b 0 with c2 | c2
  ·exact .inl ⟨.inl ⟨c1,c2⟩,by rw [show (a.natAbs : Int) = -a by omega,show (b.natAbs : Int) = -b by omega,Int.neg_mul_neg]⟩
  ·exact .inr ⟨.inl ⟨c1,c2⟩,by rw [show (a.natAbs : Int) = -a by omega,show (b.natAbs : Int) = b by omega,Int.neg_mul]⟩
  ·exact .inr ⟨.inr ⟨c1,c2⟩,by rw [show (a.natAbs : Int) = a by omega,show (b.natAbs : Int) = -b by omega,Int.mul_neg]⟩
  ·exact .inl ⟨.inr ⟨c1,c2⟩,by rw [show (a.natAbs : Int) = a by omega,show (b.natAbs : Int) = b by omega]⟩
 have hpos : 0 ≤ (a.natAbs : Int) * (b.natAbs : Int):=Int.mul_nonneg (by omega) (by omega)
 rcases hs with ⟨⟨c1,c2⟩ | ⟨c1,c2⟩,h⟩ | ⟨⟨c1,c2⟩ | ⟨c1,c2⟩,h⟩
 all_goals
  have HP:=Lib.hid h;clear h
  (first | have d1 : decide (a < 0) = true:=by (simp;omega) | have d1 : decide (a < 0) = false:=by (simp;omega))
  (first | have d2 : decide (b < 0) = true:=by (simp;omega) | have d2 : decide (b < 0) = false:=by (simp;omega))
  go_enter Tryz.func146,Tryz.ntmps146
  go_wp2_with (first | (go_at_call 97;((with_reducible refine (must_t _ _).mono ?_);rintro e w' ⟨rfl,rfl⟩)) | (go_at_call 97;((with_reducible refine (must_f _ _).mono ?_);rintro e w' ⟨rfl,rfl⟩)) | (go_at_call 97;refine (must_c _ _ _).mono ?_;rintro e w' ⟨(⟨hm,rfl⟩ | ⟨hm,rfl⟩),rfl⟩) | (go_at_call 166;refine (size_c _ _ (by assumption)).mono ?_;rintro e w' ⟨rfl,rfl⟩) | (go_at_call 158;refine (H.out _).mono ?_;rintro e w' ⟨rfl,rfl⟩))
  all_goals
   have hp:=HP.out
   simp only [hp] at *
   generalize a * b = p at *
  all_goals first
   | (exfalso;simp at hm;done)
   | (go_ret;(try simp [wrap64] at hm);refine outI_ret (fitI_ok ?_ ?_ ?_) <;> (try simp only [wrap64,IntKind.wrap_u64]) <;> omega)
   | exact ⟨rfl,outI_pan (fitI_no (by (try simp [wrap64] at hm);omega))⟩
/-- two whole numbers -/
def intsS (code a b : Int) : Except Int Int :=
 if code == 10 then fitI (a + b) else if code == 11 then fitI (a - b) else if code == 12 then fitI (a * b)
 else if b == 0 then .error 10 else if code == 14 then .ok (a.tmod b) else fitI (a.tdiv b)
theorem outI_bind {r : Except Int Int} {w w' : World} {e : Ending} (h : OutI r w e w') : (∃ x,r = .ok x ∧ e = .returned (.int .i64 x) ∧ w = w') ∨ (∃ c,r = .error c ∧ e = .panicked (flt c) ∧ w = w'):=by
 obtain ⟨h1,h2⟩:=h
 cases r with
 | ok x=>exact .inl ⟨x,rfl,h1,h2⟩
 | error c=>exact .inr ⟨c,rfl,h1,h2⟩
theorem tdiv_range {a b : Int} (ha : I64 a) (h1 : ¬ b = -1) (h0 : ¬ b = 0) : I64 (a.tdiv b):=by
 obtain ⟨a1,a2⟩:=ha
 have hn : (a.tdiv b).natAbs = a.natAbs / b.natAbs:=Int.natAbs_tdiv a b
 by_cases hb : b = 1
 ·subst hb;simpa using ⟨a1,a2⟩
 ·have : a.natAbs / b.natAbs ≤ a.natAbs / 2:=Nat.div_le_div_left (by omega) (by omega)
  constructor <;> omega
theorem wrap64_in {x : Int} (h : I64 x) : wrap64 x = x:=by
 obtain ⟨h1,h2⟩:=h
 simp only [wrap64]
 omega
set_option maxRecDepth 100000 in
set_option maxHeartbeats 2000000 in
theorem ints_c (code a b : Int) (w : World) (ha : I64 a) (hb : I64 b) : Calls Tryz.prog 110 #[.int .i64 code,.int .i64 a,.int .i64 b] w (OutI (intsS code a b) w):=by
  have ha':=ha
  have hb':=hb
  obtain ⟨a1,a2⟩:=ha
  obtain ⟨b1,b2⟩:=hb
  rcases Decidable.em (b = -1) with rfl | hb1
  · have hneg : I64 (-1):=⟨by decide,by decide⟩
    go_enter Tryz.func110,Tryz.ntmps110
    go_wp2_with (first | (go_at_call 97;((with_reducible refine (must_t _ _).mono ?_);rintro e w' ⟨rfl,rfl⟩)) | (go_at_call 97;((with_reducible refine (must_f _ _).mono ?_);rintro e w' ⟨rfl,rfl⟩)) | (go_at_call 97;refine (must_c _ _ _).mono ?_;rintro e w' ⟨(⟨hm,rfl⟩ | ⟨hm,rfl⟩),rfl⟩) | (go_at_call 145;refine (sum_c _ _ _ _ (by assumption) (by assumption)).mono ?_;rintro e w' h;rcases outI_bind h with ⟨x,hx,rfl,rfl⟩ | ⟨x,hx,rfl,rfl⟩) | (go_at_call 146;refine (product_c _ _ _ (by assumption) (by assumption)).mono ?_;rintro e w' h;rcases outI_bind h with ⟨x,hx,rfl,rfl⟩ | ⟨x,hx,rfl,rfl⟩))
    all_goals first
      | (exfalso;simp at hm;done)
      | (go_ret;refine outI_ret ?_;simp_all [intsS];done)
      | (refine ⟨rfl,outI_pan ?_⟩;simp_all [intsS];done)
      | (exfalso;simp_all;done)
  · go_enter Tryz.func110,Tryz.ntmps110
    go_wp2_with (first | (go_at_call 97;((with_reducible refine (must_t _ _).mono ?_);rintro e w' ⟨rfl,rfl⟩)) | (go_at_call 97;((with_reducible refine (must_f _ _).mono ?_);rintro e w' ⟨rfl,rfl⟩)) | (go_at_call 97;refine (must_c _ _ _).mono ?_;rintro e w' ⟨(⟨hm,rfl⟩ | ⟨hm,rfl⟩),rfl⟩) | (go_at_call 145;refine (sum_c _ _ _ _ (by assumption) (by assumption)).mono ?_;rintro e w' h;rcases outI_bind h with ⟨x,hx,rfl,rfl⟩ | ⟨x,hx,rfl,rfl⟩) | (go_at_call 146;refine (product_c _ _ _ (by assumption) (by assumption)).mono ?_;rintro e w' h;rcases outI_bind h with ⟨x,hx,rfl,rfl⟩ | ⟨x,hx,rfl,rfl⟩))
    all_goals first
      | (exfalso;simp at hm;done)
      | (go_ret;refine outI_ret ?_;simp_all [intsS];done)
      | (refine ⟨rfl,outI_pan ?_⟩;simp_all [intsS];done)
      | (exfalso;simp_all;done)
      | (have hr:=tdiv_range ha' hb1 (by assumption)
         go_ret;refine outI_ret ?_
         rw [intsS,if_neg (by simp [*]),if_neg (by simp [*]),if_neg (by simp [*]),if_neg (by simp [*]),if_neg (by simp [*])]
         exact fitI_ok hr.1 hr.2 (wrap64_in hr))
/-- what a float step answers, made plain -/
def fRes : Option Nat → Int
 | some r=>plainI r
 | none=>9221120237041090560
def floatS (code : Int) (x y : Nat) : Int :=
 fRes (if code == 10 then Ieee.double.add x y else if code == 11 then Ieee.double.sub x y else if code == 12 then Ieee.double.mul x y else Ieee.double.div x y)
end Go.Proofs.YtakcjiinchghaaaGreatDoor
end
section
namespace Go.Proofs.YtakcjiinchghaaaGreatDoor
set_option linter.unusedVariables false
set_option linter.unusedSimpArgs false
open Go.RowKit
theorem sizeBuilder : (Tryz.prog.info? 122).map (·.size) = some 2:=by kernel_rfl
theorem liesBuilder : liesAt Tryz.prog Tryz.prog.depth 122 (2 / Tryz.prog.cellsOf 122) 0 122 1 = true:=by kernel_rfl
theorem infoByte : (Tryz.prog.info? 5).map (fun i=>(i.zero,i.size,i.bytes)) = some (some (.int .u8 0),1,1):=by kernel_rfl
set_option maxHeartbeats 1000000 in
set_option maxRecDepth 100000 in
theorem copyCheck_used (b : Nat) (w : World) (h0 : w.cell? ⟨b,0,none⟩ = some (.pointer (some ⟨b,0,none⟩))) :
  Calls Tryz.prog 137 #[.pointer (some ⟨b,0,none⟩)] w fun e w'=>e = .returned (.tuple #[]) ∧ w = w':=by
 obtain ⟨j,hj,_⟩:=Option.map_eq_some_iff.1 sizeBuilder
 go_enter Tryz.func137,Tryz.ntmps137
 go_wp2
 rw [Lib.run_neq_ptr_same w _ Tryz.underlying119 hj]
 go_wp2
 go_end0
 exact ⟨rfl,rfl⟩
set_option maxHeartbeats 1000000 in
set_option maxRecDepth 100000 in
theorem copyCheck_fresh (b : Nat) (w : World) (h0 : w.cell? ⟨b,0,none⟩ = some (.pointer none)) (hsh : w.shape? b = some (122,2)) (hfz : w.frozen? ⟨b,0,none⟩ = false) :
  Calls Tryz.prog 137 #[.pointer (some ⟨b,0,none⟩)] w fun e w'=>e = .returned (.tuple #[]) ∧ w' = w.setCell ⟨b,0,none⟩ (.pointer (some ⟨b,0,none⟩)):=by
 obtain ⟨j,hj,hjs⟩:=Option.map_eq_some_iff.1 sizeBuilder
 go_enter Tryz.func137,Tryz.ntmps137
 go_wp2
 rw [Lib.run_to_unsafe w ⟨b,0,none⟩ Tryz.underlying119 Tryz.underlying191 hj (by rw [hjs];decide) hsh (Nat.zero_lt_succ 1)]
 simp only [Result.andThen]
 rw [Oper.upon_value]
 go_wp2
 rw [run_callFunc_extern Tryz.func160 (by kernel_rfl) (by kernel_rfl) (by kernel_rfl) (e:=Extern.AbiNoEscape.same) (by kernel_rfl)]
 rw [Lib.run_noEscape]
 simp only [Result.andThen]
 rw [Oper.upon_value]
 go_wp2
 rw [Lib.run_from_unsafe w ⟨b,0,none⟩ Tryz.underlying191 Tryz.underlying119 hj hsh liesBuilder]
 simp only [Result.andThen]
 rw [Oper.upon_value]
 go_wp2
 go_end0
 exact ⟨rfl,rfl⟩
/-- the builder in block b holds these bytes -/
def Bld (B b : Nat) (l : List UInt8) (w : World) : Prop:=Lib.IsBuilder 122 5 B b (Lib.byteCells l) w
theorem copyCheck_b (B b : Nat) (bs : List Value) (w : World) (h : Lib.IsBuilder 122 5 B b bs w) :
  Calls Tryz.prog 137 #[.pointer (some ⟨b,0,none⟩)] w fun e w'=>e = .returned (.tuple #[]) ∧ (Lib.BuilderAt 122 5 B b (.pointer (some ⟨b,0,none⟩)) bs w' ∧ Below B w w' ∧ ∀ k,k ≠ b → w'.heap[k]? = w.heap[k]?):=by
 rcases h with h | h
 ·refine (copyCheck_fresh b w h.cell0 h.shape h.frozen0).mono ?_
  rintro e w' ⟨rfl,rfl⟩
  exact ⟨rfl,h.used _,(Below.refl B w).setCell (p:=⟨b,0,none⟩) h.1 _,fun k hk=>Below.heap_setCell _ _ _ _ hk⟩
 ·refine (copyCheck_used b w h.cell0).mono ?_
  rintro e w' ⟨rfl,rfl⟩
  exact ⟨rfl,h,Below.refl B _,fun _ _=>rfl⟩
theorem byteCells_app (l m : List UInt8) : Lib.byteCells (l ++ m) = Lib.byteCells l ++ Lib.byteCells m:=by simp [Lib.byteCells]
set_option maxHeartbeats 2000000 in
set_option maxRecDepth 100000 in
theorem writeByte_c (B b : Nat) (l : List UInt8) (c : UInt8) (w : World) (h : Bld B b l w) (hlen : l.length + 1 ≤ 140737488355328) (hBw : B ≤ w.heap.size) :
  Calls Tryz.prog 131 #[.pointer (some ⟨b,0,none⟩),.int .u8 c.toNat] w fun e w'=>e = .returned .nilIface ∧ Bld B b (l ++ [c]) w' ∧ Below B w w':=by
 obtain ⟨i0,hi,hz0,hz1,hz2⟩:=info_parts infoByte
 have hll : (Lib.byteCells l).length = l.length:=by simp [Lib.byteCells]
 go_enter Tryz.func131,Tryz.ntmps131
 go_wp2_with (go_at_call 137;refine (copyCheck_b B b _ _ h).mono ?_)
 rintro e w1 ⟨rfl,h1,hb1,_⟩
 obtain ⟨hB,v,hbk,hown,hne⟩:=h1
 have c0 : w1.cell? ⟨b,0,none⟩ = some (.pointer (some ⟨b,0,none⟩)):=by rw [Lib.cell_of_heap hbk];rfl
 have c1 : w1.cell? ⟨b,1,none⟩ = some v:=by rw [Lib.cell_of_heap hbk];rfl
 go_wp2_with (at_builtin;refine wpList_append_own _ rfl _ _ 120 rfl B 5 i0 (.int .u8 0) 1 1 Tryz.underlying120 hi hz0 hz1 hz2 rfl (by decide) _ _ _ rfl (hown.alloc _) ⟨w1.heap.size,0,none⟩ 1 1 [.int .u8 c.toNat] rfl rfl ?c1 ?c2 ?c3 ?c4 ?c5 ?_)
 case c1 =>
  intro j u hj
  match j,hj with
  | 0,hj=>simp at hj;subst hj;simp [Addr.add]
 case c2=>intro u hu;simp at hu;subst hu;rfl
 case c3=>unfold maxLen;omega
 case c4=>omega
 case c5=>have:=hb1.size;simp;omega
 intro v' w2 hown' hgrow _
 have hlt : b < w1.heap.size:=by
  rcases Nat.lt_or_ge b w1.heap.size with h' | h'
  ·exact h'
  ·simp [Array.getElem?_eq_none h'] at hbk
 have hb2 : w2.heap[b]? = some (.cells #[.pointer (some ⟨b,0,none⟩),v] 122 (0,0)):=by
  rw [hgrow.block b (by simp;omega) (fun e=>hne e.symm),Lib.alloc_old w1 _ b hlt]
  exact hbk
 have d0 : w2.cell? ⟨b,0,none⟩ = some (.pointer (some ⟨b,0,none⟩)):=by rw [Lib.cell_of_heap hb2];rfl
 have d1 : w2.cell? ⟨b,1,none⟩ = some v:=by rw [Lib.cell_of_heap hb2];rfl
 have f1 : w2.frozen? ⟨b,1,none⟩ = false:=Lib.frozen_of_heap hb2 1
 obtain ⟨g,cap,rfl⟩ : ∃ g cap,v' = .slice (some ⟨g,0,none⟩) (l.length + 1) cap:=by
  rcases hown'.2 with ⟨_,h0⟩ | ⟨g,cap,cur,hv,_⟩
  ·omega
  ·exact ⟨g,cap,hv⟩
 go_wp2
 go_ret
 refine ⟨rfl, ?_, ?_⟩
 ·refine .inr ?_
  rw [byteCells_app]
  exact Lib.BuilderAt.put (T:=122) (e:=5) hB hb2 (bs':=Lib.byteCells l ++ [.int .u8 c.toNat]) (by simpa [hll] using hown') (by decide)
 ·exact ((hb1.alloc (by have:=hb1.size;omega) _).grown hgrow (by have:=hb1.size;simp;omega) (fun k hk=>(hown.lt k hk).1)).setCell (p:=⟨b,1,none⟩) hB _
set_option maxHeartbeats 2000000 in
set_option maxRecDepth 100000 in
theorem writeString_c (B b : Nat) (l : List UInt8) (s : ByteArray) (w : World) (h : Bld B b l w) (hlen : l.length + s.size ≤ 140737488355328) (hBw : B ≤ w.heap.size) :
  Calls Tryz.prog 90 #[.pointer (some ⟨b,0,none⟩),.string s] w fun e w'=>e = .returned (.tuple #[.int .i64 s.size,.nilIface]) ∧ Bld B b (l ++ s.data.toList) w' ∧ Below B w w':=by
 obtain ⟨i0,hi,hz0,hz1,hz2⟩:=info_parts infoByte
 have hll : (Lib.byteCells l).length = l.length:=by simp [Lib.byteCells]
 go_enter Tryz.func90,Tryz.ntmps90
 go_wp2_with (go_at_call 137;refine (copyCheck_b B b _ _ h).mono ?_)
 rintro e w1 ⟨rfl,h1,hb1,_⟩
 obtain ⟨hB,v,hbk,hown,hne⟩:=h1
 have c0 : w1.cell? ⟨b,0,none⟩ = some (.pointer (some ⟨b,0,none⟩)):=by rw [Lib.cell_of_heap hbk];rfl
 have c1 : w1.cell? ⟨b,1,none⟩ = some v:=by rw [Lib.cell_of_heap hbk];rfl
 go_wp2_with (at_builtin;refine Lib.wpList_append_own_string _ rfl _ _ 120 9 rfl B 5 i0 Tryz.underlying120 Tryz.underlying9 hi hz0 hz1 hz2 _ _ _ rfl hown s rfl ?c3 ?c4 ?c5 ?_)
 case c3=>unfold maxLen;omega
 case c4=>omega
 case c5=>have:=hb1.size;omega
 intro v' w2 hown' hgrow _
 have hlt : b < w1.heap.size:=by
  rcases Nat.lt_or_ge b w1.heap.size with h' | h'
  ·exact h'
  ·simp [Array.getElem?_eq_none h'] at hbk
 have hb2 : w2.heap[b]? = some (.cells #[.pointer (some ⟨b,0,none⟩),v] 122 (0,0)):=by
  rw [hgrow.block b hlt (fun e=>hne e.symm)]
  exact hbk
 have d0 : w2.cell? ⟨b,0,none⟩ = some (.pointer (some ⟨b,0,none⟩)):=by rw [Lib.cell_of_heap hb2];rfl
 have d1 : w2.cell? ⟨b,1,none⟩ = some v:=by rw [Lib.cell_of_heap hb2];rfl
 have f1 : w2.frozen? ⟨b,1,none⟩ = false:=Lib.frozen_of_heap hb2 1
 obtain ⟨ao,n',cap,rfl⟩ : ∃ ao n' cap,v' = .slice ao n' cap:=by
  rcases hown'.2 with ⟨hv,_⟩ | ⟨g,cap,cur,hv,_⟩
  ·exact ⟨_,_,_,hv⟩
  ·exact ⟨_,_,_,hv⟩
 go_wp2
 go_ret2
 refine ⟨rfl, ?_, ?_⟩
 ·refine .inr ?_
  rw [byteCells_app]
  exact Lib.BuilderAt.put (T:=122) (e:=5) hB hb2 (bs':=Lib.byteCells l ++ Lib.strCells s) (by simpa [Lib.strCells_length,hll] using hown') (by decide)
 ·exact (hb1.grown hgrow (by have:=hb1.size;omega) (fun k hk=>(hown.lt k hk).1)).setCell (p:=⟨b,1,none⟩) hB _
set_option maxHeartbeats 2000000 in
set_option maxRecDepth 100000 in
theorem write_c (B b : Nat) (l : List UInt8) (ad : Addr) (m c : Nat) (news : List UInt8) (w : World) (h : Bld B b l w) (hlen : l.length + m ≤ 140737488355328) (hBw : B ≤ w.heap.size)
  (hl : news.length = m) (hnews : ∀ j u,(Lib.byteCells news)[j]? = some u → w.cell? (ad.add j) = some u) (hadb : ad.block ≠ b) :
  Calls Tryz.prog 132 #[.pointer (some ⟨b,0,none⟩),.slice (some ad) m c] w fun e w'=>e = .returned (.tuple #[.int .i64 m,.nilIface]) ∧ Bld B b (l ++ news) w' ∧ Below B w w':=by
 obtain ⟨i0,hi,hz0,hz1,hz2⟩:=info_parts infoByte
 have hll : (Lib.byteCells l).length = l.length:=by simp [Lib.byteCells]
 have hnl : (Lib.byteCells news).length = m:=by simp [Lib.byteCells,hl]
 go_enter Tryz.func132,Tryz.ntmps132
 go_wp2_with (go_at_call 137;refine (copyCheck_b B b _ _ h).mono ?_)
 rintro e w1 ⟨rfl,h1,hb1,hfar⟩
 obtain ⟨hB,v,hbk,hown,hne⟩:=h1
 have c0 : w1.cell? ⟨b,0,none⟩ = some (.pointer (some ⟨b,0,none⟩)):=by rw [Lib.cell_of_heap hbk];rfl
 have c1 : w1.cell? ⟨b,1,none⟩ = some v:=by rw [Lib.cell_of_heap hbk];rfl
 have hnews1 : ∀ j u,(Lib.byteCells news)[j]? = some u → w1.cell? (ad.add j) = some u:=fun j u hj=>by
  rw [World.cell?_of_block (w:=w) (hfar _ (by unfold Addr.add;split <;> exact hadb))]
  exact hnews j u hj
 clear hfar
 go_wp2_with (at_builtin;refine wpList_append_own _ rfl _ _ 120 rfl B 5 i0 (.int .u8 0) 1 1 Tryz.underlying120 hi hz0 hz1 hz2 rfl (by decide) _ _ _ rfl hown ad m c (Lib.byteCells news) rfl (by omega) hnews1 ?c2 ?c3 ?c4 ?c5 ?_)
 case c2=>intro u hu;simp only [Lib.byteCells,List.mem_map] at hu;obtain ⟨x,_,rfl⟩:=hu;rfl
 case c3=>unfold maxLen;omega
 case c4=>omega
 case c5=>have:=hb1.size;omega
 intro v' w2 hown' hgrow _
 have hlt : b < w1.heap.size:=by
  rcases Nat.lt_or_ge b w1.heap.size with h' | h'
  ·exact h'
  ·simp [Array.getElem?_eq_none h'] at hbk
 have hb2 : w2.heap[b]? = some (.cells #[.pointer (some ⟨b,0,none⟩),v] 122 (0,0)):=by
  rw [hgrow.block b hlt (fun e=>hne e.symm)]
  exact hbk
 have d0 : w2.cell? ⟨b,0,none⟩ = some (.pointer (some ⟨b,0,none⟩)):=by rw [Lib.cell_of_heap hb2];rfl
 have d1 : w2.cell? ⟨b,1,none⟩ = some v:=by rw [Lib.cell_of_heap hb2];rfl
 have f1 : w2.frozen? ⟨b,1,none⟩ = false:=Lib.frozen_of_heap hb2 1
 obtain ⟨ao,n',cap,rfl⟩ : ∃ ao n' cap,v' = .slice ao n' cap:=by
  rcases hown'.2 with ⟨hv,_⟩ | ⟨g,cap,cur,hv,_⟩
  ·exact ⟨_,_,_,hv⟩
  ·exact ⟨_,_,_,hv⟩
 go_wp2
 go_ret2
 refine ⟨rfl, ?_, ?_⟩
 ·refine .inr ?_
  rw [byteCells_app]
  exact Lib.BuilderAt.put (T:=122) (e:=5) hB hb2 (bs':=Lib.byteCells l ++ Lib.byteCells news) (by simpa [hnl,hll] using hown') (by decide)
 ·exact (hb1.grown hgrow (by have:=hb1.size;omega) (fun k hk=>(hown.lt k hk).1)).setCell (p:=⟨b,1,none⟩) hB _
theorem string_b (B b : Nat) (l : List UInt8) (w : World) (h : Bld B b l w) (hBw : B ≤ w.heap.size) :
  Calls Tryz.prog 91 #[.pointer (some ⟨b,0,none⟩)] w fun e w'=>e = .returned (.string ⟨l.toArray⟩) ∧ Below B w w':=Tryz.Builder_String_any B b l w h hBw
theorem bld_new (w : World) : Bld w.heap.size w.heap.size [] (w.alloc (.cells #[.pointer none,.slice none 0 0] 122)):=by
 refine .inl ⟨Nat.le_refl _,.slice none 0 0,heap_alloc_new w _, ?_,by simp [Value.ownBlock]⟩
 exact ⟨rfl,.inl ⟨rfl,rfl⟩⟩
theorem bld_al {B b : Nat} {l : List UInt8} {w : World} (h : Bld B b l w) (o : Obj) : Bld B b l (w.alloc o):=by
 rcases h with ⟨hB,v,hb,hown,hne⟩ | ⟨hB,v,hb,hown,hne⟩
 ·refine .inl ⟨hB,v, ?_,hown.alloc _,hne⟩
  rw [Lib.alloc_old w _ b (by rcases Nat.lt_or_ge b w.heap.size with h' | h';exact h';simp [Array.getElem?_eq_none h'] at hb)];exact hb
 ·refine .inr ⟨hB,v, ?_,hown.alloc _,hne⟩
  rw [Lib.alloc_old w _ b (by rcases Nat.lt_or_ge b w.heap.size with h' | h';exact h';simp [Array.getElem?_eq_none h'] at hb)];exact hb
theorem bld_drew {B b : Nat} {l : List UInt8} {w : World} (h : Bld B b l w) : Bld B b l w.drew:=h
theorem Bld.lt {B b : Nat} {l : List UInt8} {w : World} (h : Bld B b l w) : b < w.heap.size:=by
 rcases h with h | h
 ·exact h.lt
 ·exact h.lt
theorem Bld.below {B b : Nat} {l : List UInt8} {w : World} (h : Bld B b l w) : B ≤ b:=by
 rcases h with h | h <;> exact h.1
end Go.Proofs.YtakcjiinchghaaaGreatDoor
end
section
namespace Go.Proofs.YtakcjiinchghaaaGreatDoor
set_option linter.unusedVariables false
set_option linter.unusedSimpArgs false
open Ieee
theorem signed_shift (s : Bool) (m a b : Nat) : signed s m (a + b) = signed s m a * (2 ^ b : Nat):=by
 unfold signed
 cases s <;> simp [Nat.shiftLeft_eq,Nat.pow_add,Int.mul_assoc,Int.neg_mul]
theorem cmp_scale (x y : Int) (k : Nat) (hk : 0 < k) : compare (x * (k : Int)) (y * (k : Int)) = compare x y:=by
 have h : ((0 : Int) < k):=by omega
 rcases Int.lt_trichotomy x y with h1 | h1 | h1
 ·have : x * (k : Int) < y * k:=Int.mul_lt_mul_of_pos_right h1 h
  rw [Int.compare_eq_lt.2 h1,Int.compare_eq_lt.2 this]
 ·rw [h1];simp
 ·have : y * (k : Int) < x * k:=Int.mul_lt_mul_of_pos_right h1 h
  rw [Int.compare_eq_gt.2 h1,Int.compare_eq_gt.2 this]
theorem order_numbers (s t : Bool) (m n : Nat) (i j : Int) (hi : -1074 ≤ i) (hj : -1074 ≤ j) :
  Datum.order (.number s m i) (.number t n j) = some (compare (signed s m (i + 1074).toNat) (signed t n (j + 1074).toNat)):=by
 simp only [Datum.order]
 have e1 : (i + 1074).toNat = (i - min i j).toNat + (min i j + 1074).toNat:=by omega
 have e2 : (j + 1074).toNat = (j - min i j).toNat + (min i j + 1074).toNat:=by omega
 rw [e1,e2,signed_shift,signed_shift,cmp_scale _ _ _ (Nat.two_pow_pos _)]
/-- what a rung stands for, in units of the least place -/
def rval (r : Nat) : Nat:=if r < 4503599627370496 then r else (4503599627370496 + r % 4503599627370496) <<< (r / 4503599627370496 - 1)
theorem rval_succ (r : Nat) : rval r < rval (r + 1):=by
 unfold rval
 by_cases h1 : r + 1 < 4503599627370496
 ·rw [if_pos (by omega),if_pos h1];omega
 ·rw [if_neg h1]
  by_cases h2 : r < 4503599627370496
  ·rw [if_pos h2]
   have : r = 4503599627370495:=by omega
   subst this;decide
  ·rw [if_neg h2]
   by_cases h3 : (r + 1) % 4503599627370496 = 0
   ·have e1 : r % 4503599627370496 = 4503599627370495:=by omega
    have e2 : (r + 1) / 4503599627370496 - 1 = (r / 4503599627370496 - 1) + 1:=by omega
    rw [h3,e1,e2,Nat.shiftLeft_eq,Nat.shiftLeft_eq,Nat.pow_succ]
    have:=Nat.two_pow_pos (r / 4503599627370496 - 1)
    generalize 2 ^ (r / 4503599627370496 - 1) = p at *
    omega
   ·have e1 : (r + 1) % 4503599627370496 = r % 4503599627370496 + 1:=by omega
    have e2 : (r + 1) / 4503599627370496 = r / 4503599627370496:=by omega
    rw [e1,e2,Nat.shiftLeft_eq,Nat.shiftLeft_eq]
    exact Nat.mul_lt_mul_of_pos_right (by omega) (Nat.two_pow_pos _)
theorem rval_lt {a b : Nat} (h : a < b) : rval a < rval b:=by
 induction b with
 | zero=>omega
 | succ b ih =>
  by_cases e : a = b
  ·subst e;exact rval_succ a
  ·exact Nat.lt_trans (ih (by omega)) (rval_succ b)
def negW (x : Nat) : Bool:=x / 9223372036854775808 % 2 == 1
def rungW (x : Nat) : Nat:=x % 9223372036854775808
/-- the place of a word that is no NaN in the order of floats -/
def sr (x : Nat) : Int:=if negW x then -(rungW x : Int) else rungW x
theorem read_fin {x : Nat} (h : rungW x < 9218868437227405312) : ∃ m i,double.read x = .number (negW x) m i ∧ -1074 ≤ i ∧ i ≤ 971 ∧ m <<< (i + 1074).toNat = rval (rungW x) ∧ m < 9007199254740992:=by
 unfold Format.read
 have s : double.signWeight = 9223372036854775808:=by decide
 have b : double.binade = 4503599627370496:=by decide
 have f : double.infRung = 9218868437227405312:=by decide
 have l : double.leastPlace = -1074:=by decide
 simp only [s,b,f,l]
 change rungW x < _ at h
 unfold rungW at h ⊢
 unfold negW
 generalize hr : x % 9223372036854775808 = r at *
 by_cases h1 : r < 4503599627370496
 ·rw [if_pos h1]
  exact ⟨r, -1074,rfl,by omega,by omega,by simp [rval,h1],by omega⟩
 ·rw [if_neg h1,if_pos h]
  refine ⟨_,_,rfl,by omega,by omega, ?_,by omega⟩
  rw [rval,if_neg h1]
  congr 1
  omega
theorem read_inf {x : Nat} (h : rungW x = 9218868437227405312) : double.read x = .infinity (negW x):=by
 unfold Format.read
 have s : double.signWeight = 9223372036854775808:=by decide
 have b : double.binade = 4503599627370496:=by decide
 have f : double.infRung = 9218868437227405312:=by decide
 simp only [s,b,f]
 unfold rungW at h
 rw [h];rfl
theorem read_nan {x : Nat} (h : 9218868437227405312 < rungW x) : ∃ t,double.read x = .nan (negW x) t:=by
 unfold Format.read
 have s : double.signWeight = 9223372036854775808:=by decide
 have b : double.binade = 4503599627370496:=by decide
 have f : double.infRung = 9218868437227405312:=by decide
 simp only [s,b,f]
 unfold rungW at h
 rw [if_neg (by omega),if_neg (by omega),if_neg (by omega)]
 exact ⟨_,rfl⟩
theorem signed_val (s : Bool) (m k : Nat) : signed s m k = if s then -((m <<< k : Nat) : Int) else ((m <<< k : Nat) : Int):=rfl
theorem order_sr {x y : Nat} (hx : rungW x ≤ 9218868437227405312) (hy : rungW y ≤ 9218868437227405312) : double.order x y = some (compare (sr x) (sr y)):=by
 have hz : rval 0 = 0:=by decide
 have key : ∀ (s t : Bool) (a b : Nat),compare (if s then -((rval a : Nat) : Int) else (rval a : Nat)) (if t then -((rval b : Nat) : Int) else (rval b : Nat)) = compare (if s then -(a : Int) else (a : Int)) (if t then -(b : Int) else (b : Int)):=by
  intro s t a b
  have h1 : a < b → rval a < rval b:=rval_lt
  have h2 : b < a → rval b < rval a:=rval_lt
  have h3 : 0 < a → 0 < rval a:=fun h=>by have:=rval_lt h;omega
  have h4 : 0 < b → 0 < rval b:=fun h=>by have:=rval_lt h;omega
  have h5 : a = b → rval a = rval b:=fun h=>by rw [h]
  have h6 : a = 0 → rval a = 0:=fun h=>by rw [h,hz]
  have h7 : b = 0 → rval b = 0:=fun h=>by rw [h,hz]
  have tri : ∀ (p q p' q' : Int),(p < q → p' < q') → (p = q → p' = q') → (q < p → q' < p') → compare p' q' = compare p q:=by
   intro p q p' q' k1 k2 k3
   rcases Int.lt_trichotomy p q with h | h | h
   ·rw [Int.compare_eq_lt.2 h,Int.compare_eq_lt.2 (k1 h)]
   ·rw [h,k2 h];simp
   ·rw [Int.compare_eq_gt.2 h,Int.compare_eq_gt.2 (k3 h)]
  refine tri _ _ _ _ ?_ ?_ ?_ <;> cases s <;> cases t <;> simp only [if_true,Bool.false_eq_true,if_false] <;> intro h <;> omega
 show Datum.order (double.read x) (double.read y) = _
 unfold sr
 rcases Nat.lt_or_eq_of_le hx with hx | hx <;> rcases Nat.lt_or_eq_of_le hy with hy | hy
 ·obtain ⟨m,i,e1,i1,_,v1,_⟩:=read_fin hx
  obtain ⟨n,j,e2,j1,_,v2,_⟩:=read_fin hy
  rw [e1,e2,order_numbers _ _ _ _ _ _ i1 j1,signed_val,signed_val,v1,v2,key]
 ·obtain ⟨m,i,e1,_⟩:=read_fin hx
  rw [e1,read_inf hy]
  simp only [Datum.order]
  rw [hy]
  cases negW x <;> cases negW y <;> simp only [if_true,Bool.false_eq_true,if_false] <;> first | rw [Int.compare_eq_lt.2 (by omega)] | rw [Int.compare_eq_gt.2 (by omega)]
 ·obtain ⟨m,i,e1,_⟩:=read_fin hy
  rw [e1,read_inf hx]
  simp only [Datum.order]
  rw [hx]
  cases negW x <;> cases negW y <;> simp only [if_true,Bool.false_eq_true,if_false] <;> first | rw [Int.compare_eq_lt.2 (by omega)] | rw [Int.compare_eq_gt.2 (by omega)]
 ·rw [read_inf hx,read_inf hy]
  simp only [Datum.order]
  rw [hx,hy]
  cases negW x <;> cases negW y <;> decide
theorem negW_word (s : Bool) {r : Nat} (h : r < 9223372036854775808) : negW (double.word s r) = s:=by
 have e : double.signWeight = 9223372036854775808:=by decide
 unfold negW Format.word
 rw [e]
 cases s
 ·simp only [Bool.false_eq_true,if_false]
  have : r / 9223372036854775808 = 0:=by omega
  rw [this];rfl
 ·simp only [if_true]
  have : (9223372036854775808 + r) / 9223372036854775808 = 1:=by omega
  rw [this];rfl
theorem rungW_word (s : Bool) {r : Nat} (h : r < 9223372036854775808) : rungW (double.word s r) = r:=by
 have e : double.signWeight = 9223372036854775808:=by decide
 unfold rungW Format.word
 rw [e]
 cases s
 ·simp only [Bool.false_eq_true,if_false];omega
 ·simp only [if_true];omega
theorem cut_exact (s : Bool) (n d q : Nat) (h : n = q * 2 ^ d) : Toward.even.cut s n d = q:=by
 have hd : n = 0 ∨ d ≤ n.log2 + 2:=by
  rcases Nat.eq_zero_or_pos n with h0 | h0
  ·exact .inl h0
  ·right
   have h1:=Nat.lt_log2_self (n:=n)
   have hq : 1 ≤ q:=by
    rcases Nat.eq_zero_or_pos q with hq | hq
    ·rw [hq] at h;omega
    ·exact hq
   have h2 : 2 ^ d ≤ n:=by rw [h];exact Nat.le_mul_of_pos_left _ hq
   have h3 : 2 ^ d < 2 ^ (n.log2 + 1):=Nat.lt_of_le_of_lt h2 h1
   have:=(Nat.pow_lt_pow_iff_right (by decide : 1 < 2)).1 h3
   omega
 unfold Toward.cut
 simp only [Nat.shiftLeft_eq,Nat.one_mul]
 rcases hd with hd | hd
 ·have hq : q = 0:=by
   have hp:=Nat.two_pow_pos d
   rcases Nat.eq_zero_or_pos q with hq | hq
   ·exact hq
   ·have : 0 < q * 2 ^ d:=Nat.mul_pos hq hp
    omega
  subst hd;subst hq
  simp
 ·rw [Nat.min_eq_left hd]
  have hp:=Nat.two_pow_pos d
  have hz : n % 2 ^ d = 0:=by rw [h];exact Nat.mul_mod_left _ _
  have hv : n / 2 ^ d = q:=by rw [h];exact Nat.mul_div_left _ hp
  rw [hz,hv]
  have : ¬ (2 ^ d = 0):=by omega
  simp [this]
set_option exponentiation.threshold 1100 in
/-- a whole number that is a float is written as itself -/
theorem write_whole (s : Bool) (k e : Nat) (hk : k < 9007199254740992) (he : e ≤ 971) :
  ∃ m i,double.read (double.nearest s (k <<< e) 0) = .number s m i ∧ -1074 ≤ i ∧ signed s m (i + 1074).toNat = signed s (k <<< e) 1074 ∧ rungW (double.nearest s (k <<< e) 0) < 9218868437227405312:=by
 have fin : ∀ (r : Nat),r < 9218868437227405312 → rval r = (k <<< e) <<< 1074 → double.nearest s (k <<< e) 0 = double.word s r →
   ∃ m i,double.read (double.nearest s (k <<< e) 0) = .number s m i ∧ -1074 ≤ i ∧ signed s m (i + 1074).toNat = signed s (k <<< e) 1074 ∧ rungW (double.nearest s (k <<< e) 0) < 9218868437227405312:=by
  intro r hr hv hw
  have h1:=rungW_word s (show r < 9223372036854775808 by omega)
  have h2:=negW_word s (show r < 9223372036854775808 by omega)
  rw [hw]
  obtain ⟨m,i,e1,i1,_,v1,_⟩:=read_fin (x:=double.word s r) (by rw [h1];exact hr)
  rw [h1] at v1
  rw [h2] at e1
  exact ⟨m,i,e1,i1,by rw [signed_val,signed_val,v1,hv],by rw [h1];exact hr⟩
 by_cases h0 : k <<< e = 0
 ·refine fin 0 (by decide) (by rw [h0];decide) ?_
  unfold Format.nearest
  rw [if_pos h0]
 ·have hL1:=Nat.log2_self_le h0
  have hL2:=Nat.lt_log2_self (n:=k <<< e)
  have hLe : (k <<< e).log2 ≤ 52 + e:=by
   have : k <<< e < 2 ^ (53 + e):=by
    rw [Nat.shiftLeft_eq,Nat.pow_add]
    exact Nat.mul_lt_mul_of_pos_right hk (Nat.two_pow_pos _)
   have h2:=(Nat.log2_lt h0).2 this
   omega
  generalize hc : k <<< e = c at *
  generalize hl : c.log2 = L at *
  have key : ∃ q,4503599627370496 ≤ q ∧ q < 9007199254740992 ∧ q * 2 ^ L = c * 2 ^ 52 ∧ Toward.even.cut s (c <<< (52 - L)) (L - 52) = q:=by
   rcases Nat.le_total L 52 with h | h
   ·refine ⟨c * 2 ^ (52 - L), ?_, ?_, ?_, ?_⟩
    ·calc 4503599627370496 = 2 ^ L * 2 ^ (52 - L):=by rw [← Nat.pow_add,show L + (52 - L) = 52 by omega]
      _ ≤ _:=Nat.mul_le_mul_right _ hL1
    ·calc c * 2 ^ (52 - L) < 2 ^ (L + 1) * 2 ^ (52 - L):=Nat.mul_lt_mul_of_pos_right hL2 (Nat.two_pow_pos _)
      _ = _:=by rw [← Nat.pow_add,show L + 1 + (52 - L) = 53 by omega]
    ·rw [Nat.mul_assoc,← Nat.pow_add,show 52 - L + L = 52 by omega]
    ·refine cut_exact _ _ _ _ ?_
     rw [show L - 52 = 0 by omega,Nat.shiftLeft_eq,Nat.pow_zero,Nat.mul_one]
   ·have hq : c = k * 2 ^ (e - (L - 52)) * 2 ^ (L - 52):=by
     rw [← hc,Nat.shiftLeft_eq,Nat.mul_assoc,← Nat.pow_add,show e - (L - 52) + (L - 52) = e by omega]
    generalize k * 2 ^ (e - (L - 52)) = q at hq
    refine ⟨q, ?_, ?_, ?_, ?_⟩
    ·have : 2 ^ 52 * 2 ^ (L - 52) ≤ q * 2 ^ (L - 52):=by
      rw [← hq,← Nat.pow_add,show 52 + (L - 52) = L by omega];exact hL1
     exact Nat.le_of_mul_le_mul_right this (Nat.two_pow_pos _)
    ·have : q * 2 ^ (L - 52) < 2 ^ 53 * 2 ^ (L - 52):=by
      rw [← hq,← Nat.pow_add,show 53 + (L - 52) = L + 1 by omega];exact hL2
     exact Nat.lt_of_mul_lt_mul_right this
    ·rw [hq,Nat.mul_assoc,← Nat.pow_add,show L - 52 + 52 = L by omega]
    ·refine cut_exact _ _ _ _ ?_
     rw [show 52 - L = 0 by omega];exact hq
  obtain ⟨q,q1,q2,q3,q4⟩:=key
  have hdiv : ((L + 1022) * 4503599627370496 + q) / 4503599627370496 = L + 1023:=by omega
  have hmod : ((L + 1022) * 4503599627370496 + q) % 4503599627370496 = q - 4503599627370496:=by omega
  refine fin ((L + 1022) * 4503599627370496 + q) (by omega) ?_ ?_
  ·rw [rval,if_neg (by omega),hdiv,hmod,show 4503599627370496 + (q - 4503599627370496) = q by omega,show L + 1023 - 1 = L + 1022 by omega]
   rw [Nat.shiftLeft_eq,Nat.shiftLeft_eq,Nat.pow_add,← Nat.mul_assoc,q3,Nat.mul_assoc,← Nat.pow_add]
  ·unfold Format.nearest
   rw [if_neg h0]
   have b : double.binade = 4503599627370496:=by decide
   have f : double.infRung = 9218868437227405312:=by decide
   have l : double.leastPlace = -1074:=by decide
   have fr : double.fractionBits = 52:=by decide
   simp only [b,f,l,fr,hl]
   rw [show max ((0 : Int) + (L : Int) - ((52 : Nat) : Int)) (-1074) = (L : Int) - 52 by omega]
   rw [show ((0 : Int) - ((L : Int) - 52)).toNat = 52 - L by omega,show ((L : Int) - 52 - 0).toNat = L - 52 by omega,q4,show ((L : Int) - 52 - -1074).toNat = L + 1022 by omega]
   rw [Nat.min_eq_left (by omega)]
theorem shl_lt {a b : Nat} (k : Nat) (h : a < b) : a <<< k < b <<< k:=by
 rw [Nat.shiftLeft_eq,Nat.shiftLeft_eq];exact Nat.mul_lt_mul_of_pos_right h (Nat.two_pow_pos _)
theorem shl_le {a b : Nat} (k : Nat) (h : a ≤ b) : a <<< k ≤ b <<< k:=by
 rw [Nat.shiftLeft_eq,Nat.shiftLeft_eq];exact Nat.mul_le_mul_right _ h
theorem shl_div_le (m a b : Nat) : (m / 2 ^ a) <<< (a + b) ≤ m <<< b:=by
 rw [Nat.shiftLeft_add];exact shl_le _ (by rw [Nat.shiftLeft_eq];exact Nat.div_mul_le_self _ _)
theorem shl_div_lt (m a b : Nat) : m <<< b < (m / 2 ^ a + 1) <<< (a + b):=by
 rw [Nat.shiftLeft_add];exact shl_lt _ (by rw [Nat.shiftLeft_eq];exact (Nat.div_lt_iff_lt_mul (Nat.two_pow_pos _)).1 (Nat.lt_succ_self _))
/-- a float cut towards zero, as a whole number: none where it is not finite -/
def wholeF (x : Nat) : Option Int:=(double.read x).toInt .zero
def truncW (x : Nat) : Nat:=double.write ((double.read x).integral .zero)
theorem wholeF_fin {x : Nat} (h : rungW x < 9218868437227405312) : ∃ k e,k < 9007199254740992 ∧ e ≤ 971 ∧ wholeF x = some (signed (negW x) (k <<< e) 0) ∧ truncW x = double.nearest (negW x) (k <<< e) 0 ∧
  (k <<< e) <<< 1074 ≤ rval (rungW x) ∧ rval (rungW x) < (k <<< e + 1) <<< 1074:=by
 obtain ⟨m,i,e1,i1,i2,v1,hm⟩:=read_fin h
 unfold wholeF truncW Datum.toInt
 rw [e1]
 simp only [Datum.integral,Format.write]
 have hcut : ∀ n d,Toward.zero.cut (negW x) n d = n / 2 ^ min d (n.log2 + 2):=by
  intro n d
  unfold Toward.cut
  simp [Nat.shiftLeft_eq]
 by_cases hi : 0 ≤ i
 ·have hv : (m <<< i.toNat) <<< 1074 = rval (rungW x):=by
   rw [← v1,← Nat.shiftLeft_add];congr 1;omega
  refine ⟨m,i.toNat,hm,by omega, ?_, ?_,Nat.le_of_eq hv, ?_⟩
  ·rw [hcut,show (-i).toNat = 0 by omega];simp
  ·rw [hcut,show (-i).toNat = 0 by omega];simp
  ·rw [← hv];exact shl_lt _ (Nat.lt_succ_self _)
 ·have hdiv : m / 2 ^ min (-i).toNat (m.log2 + 2) = m / 2 ^ (-i).toNat:=by
   rcases Nat.le_total (-i).toNat (m.log2 + 2) with h1 | h1
   ·rw [Nat.min_eq_left h1]
   ·rw [Nat.min_eq_right h1]
    have h2:=Nat.lt_log2_self (n:=m)
    have h3 : 2 ^ (m.log2 + 1) ≤ 2 ^ (m.log2 + 2):=Nat.pow_le_pow_right (by decide) (by omega)
    have h4 : 2 ^ (m.log2 + 2) ≤ 2 ^ (-i).toNat:=Nat.pow_le_pow_right (by decide) h1
    rw [Nat.div_eq_of_lt (by omega),Nat.div_eq_of_lt (by omega)]
  refine ⟨m / 2 ^ (-i).toNat,0,Nat.lt_of_le_of_lt (Nat.div_le_self _ _) hm,by omega, ?_, ?_, ?_, ?_⟩
  ·rw [show i.toNat = 0 by omega,Nat.shiftLeft_zero,hcut,hdiv];simp
  ·rw [show i.toNat = 0 by omega,Nat.shiftLeft_zero,hcut,hdiv];simp
  ·have:=shl_div_le m (-i).toNat (i + 1074).toNat
   rw [v1,show (-i).toNat + (i + 1074).toNat = 1074 by omega] at this
   rw [Nat.shiftLeft_zero];exact this
  ·have:=shl_div_lt m (-i).toNat (i + 1074).toNat
   rw [v1,show (-i).toNat + (i + 1074).toNat = 1074 by omega] at this
   rw [Nat.shiftLeft_zero];exact this
/-- the least float of 64 bits that is no whole number of 64 bits -/
def W63 : Nat:=4890909195324358656
theorem rval_W63 : rval W63 = 9223372036854775808 <<< 1074:=by decide +kernel
theorem rval_W63s : (9223372036854775808 + 1) <<< 1074 ≤ rval (W63 + 1):=by decide +kernel
/-- 'int(f)' of a float that is cut: the number, if it is one of 64 bits -/
def intF (x : Nat) : Option Int :=
 match wholeF x with
 | some n=>if -9223372036854775808 ≤ n ∧ n ≤ 9223372036854775807 then some n else none
 | none=>none
theorem shl_le_iff (a b k : Nat) : a <<< k ≤ b <<< k ↔ a ≤ b:=⟨fun h=>by
 rcases Nat.lt_or_ge b a with h1 | h1
 ·have:=shl_lt k h1;omega
 ·exact h1,shl_le k⟩
theorem shl_lt_iff (a b k : Nat) : a <<< k < b <<< k ↔ a < b:=⟨fun h=>by
 rcases Nat.lt_or_ge a b with h1 | h1
 ·exact h1
 ·have:=shl_le k h1;omega,shl_lt k⟩
/-- a float is an int's just where it lies between -2^63 and 2^63 -/
theorem intF_range (x : Nat) : (intF x).isSome = decide (rungW x ≤ 9218868437227405312 ∧ -(W63 : Int) ≤ sr x ∧ sr x < W63):=by
 have hW : W63 = 4890909195324358656:=rfl
 rcases Nat.lt_trichotomy (rungW x) 9218868437227405312 with h | h | h
 ·obtain ⟨k,e,_,_,h1,_,h3,h4⟩:=wholeF_fin h
  generalize k <<< e = c at *
  have a1 : c < 9223372036854775808 → rungW x < W63:=fun hc=>by
   rcases Nat.lt_or_ge (rungW x) W63 with h5 | h5
   ·exact h5
   ·have h6 : rval W63 ≤ rval (rungW x):=by
     rcases Nat.lt_or_eq_of_le h5 with h7 | h7
     ·exact Nat.le_of_lt (rval_lt h7)
     ·rw [h7];exact Nat.le_refl _
    rw [rval_W63] at h6
    have h7:=(shl_lt_iff _ _ _).1 (Nat.lt_of_le_of_lt h6 h4)
    omega
  have a2 : rungW x < W63 → c < 9223372036854775808:=fun hc=>by
   have h6:=rval_lt hc
   rw [rval_W63] at h6
   exact (shl_lt_iff _ _ _).1 (Nat.lt_of_le_of_lt h3 h6)
  have a3 : c ≤ 9223372036854775808 → rungW x ≤ W63:=fun hc=>by
   rcases Nat.lt_or_ge W63 (rungW x) with h5 | h5
   ·have h6 : rval (W63 + 1) ≤ rval (rungW x):=by
     rcases Nat.lt_or_eq_of_le (show W63 + 1 ≤ rungW x from h5) with h7 | h7
     ·exact Nat.le_of_lt (rval_lt h7)
     ·rw [h7];exact Nat.le_refl _
    have h7:=(shl_lt_iff _ _ _).1 (Nat.lt_of_le_of_lt (Nat.le_trans rval_W63s h6) h4)
    omega
   ·exact h5
  have a4 : rungW x ≤ W63 → c ≤ 9223372036854775808:=fun hc=>by
   have h6 : rval (rungW x) ≤ rval W63:=by
    rcases Nat.lt_or_eq_of_le hc with h7 | h7
    ·exact Nat.le_of_lt (rval_lt h7)
    ·rw [h7];exact Nat.le_refl _
   rw [rval_W63] at h6
   exact (shl_le_iff _ _ _).1 (Nat.le_trans h3 h6)
  unfold intF sr
  rw [h1,signed_val,Nat.shiftLeft_zero]
  simp only
  cases negW x
  ·simp only [Bool.false_eq_true,if_false]
   by_cases hc : c < 9223372036854775808
   ·have:=a1 hc
    rw [if_pos (by omega)];symm;simp;omega
   ·have : ¬ rungW x < W63:=fun hh=>hc (a2 hh)
    rw [if_neg (by omega)];symm;simp;omega
  ·simp only [if_true]
   by_cases hc : c ≤ 9223372036854775808
   ·have:=a3 hc
    rw [if_pos (by omega)];symm;simp;omega
   ·have : ¬ rungW x ≤ W63:=fun hh=>hc (a4 hh)
    rw [if_neg (by omega)];symm;simp;omega
 ·unfold intF wholeF Datum.toInt
  rw [read_inf h]
  unfold sr
  simp only [Datum.integral]
  symm;simp
  intro _
  rw [h,hW]
  cases negW x <;> simp
 ·unfold intF wholeF Datum.toInt
  obtain ⟨t,ht⟩:=read_nan h
  rw [ht]
  simp only [Datum.integral]
  symm;simp
  intro hh;omega
theorem trunc_int (x : Nat) (h : rungW x ≤ 9218868437227405312) : intF (truncW x) = intF x ∧ rungW (truncW x) ≤ 9218868437227405312:=by
 rcases Nat.lt_or_eq_of_le h with h | h
 ·obtain ⟨k,e,hk,he,h1,h2,h3,h4⟩:=wholeF_fin h
  obtain ⟨m,i,e1,i1,v1,hr⟩:=write_whole (negW x) k e hk he
  rw [← h2] at e1 hr
  refine ⟨?_,Nat.le_of_lt hr⟩
  obtain ⟨k',e',_,_,g1,_,g3,g4⟩:=wholeF_fin hr
  obtain ⟨m',i',e2,i2,_,v2,_⟩:=read_fin hr
  rw [e1] at e2
  injection e2 with f1 f2 f3
  subst f2;subst f3
  have hc : rval (rungW (truncW x)) = (k <<< e) <<< 1074:=by
   rw [← v2]
   rw [signed_val,signed_val] at v1
   generalize m <<< (i + 1074).toNat = p at *
   generalize (k <<< e) <<< 1074 = q at *
   split at v1 <;> omega
  rw [hc] at g3 g4
  have : k' <<< e' = k <<< e:=by
   have l1:=(shl_le_iff _ _ _).1 g3
   have l2:=(shl_lt_iff _ _ _).1 g4
   omega
  unfold intF
  rw [g1,h1,this,← f1]
 ·have hr:=read_inf h
  have ht : truncW x = double.word (negW x) 9218868437227405312:=by
   unfold truncW;rw [hr];rfl
  have h1:=rungW_word (negW x) (show 9218868437227405312 < 9223372036854775808 by decide)
  refine ⟨?_,by rw [ht,h1];decide⟩
  unfold intF wholeF Datum.toInt
  rw [hr,ht,read_inf h1]
  rfl
theorem sr_lo : sr 14114281232179134464 = -(W63 : Int):=by decide
theorem sr_hi : sr 4890909195324358656 = (W63 : Int):=by decide
theorem rg_lo : rungW 14114281232179134464 ≤ 9218868437227405312:=by decide
theorem rg_hi : rungW 4890909195324358656 ≤ 9218868437227405312:=by decide
theorem order_nan {x y : Nat} (h : 9218868437227405312 < rungW x) : double.order x y = none:=by
 obtain ⟨t,ht⟩:=read_nan h
 show Datum.order (double.read x) (double.read y) = none
 rw [ht];rfl
theorem ge_lo (x : Nat) : (double.order x 14114281232179134464 == some .gt || double.order x 14114281232179134464 == some .eq) = decide (rungW x ≤ 9218868437227405312 ∧ -(W63 : Int) ≤ sr x):=by
 rcases Nat.lt_or_ge 9218868437227405312 (rungW x) with h | h
 ·rw [order_nan h];symm;simp;omega
 ·rw [order_sr h rg_lo,sr_lo]
  rcases Int.lt_trichotomy (sr x) (-(W63 : Int)) with h1 | h1 | h1
  ·rw [Int.compare_eq_lt.2 h1];symm;simp;omega
  ·rw [h1];symm;simp;exact h
  ·rw [Int.compare_eq_gt.2 h1];symm;simp;omega
theorem lt_hi (x : Nat) : (double.order x 4890909195324358656 == some .lt) = decide (rungW x ≤ 9218868437227405312 ∧ sr x < W63):=by
 rcases Nat.lt_or_ge 9218868437227405312 (rungW x) with h | h
 ·rw [order_nan h];symm;simp;omega
 ·rw [order_sr h rg_hi,sr_hi]
  rcases Int.lt_trichotomy (sr x) (W63 : Int) with h1 | h1 | h1
  ·rw [Int.compare_eq_lt.2 h1];symm;simp;omega
  ·rw [h1];symm;simp
  ·rw [Int.compare_eq_gt.2 h1];symm;simp;omega
/-- the test that val makes of the float that is cut -/
theorem cast_test (x : Nat) : ((double.order x 14114281232179134464 == some .gt || double.order x 14114281232179134464 == some .eq) && double.order x 4890909195324358656 == some .lt) = (intF x).isSome:=by
 rw [ge_lo,lt_hi,intF_range]
 by_cases h1 : rungW x ≤ 9218868437227405312 <;> simp [h1]
end Go.Proofs.YtakcjiinchghaaaGreatDoor
end
section
namespace Go.Proofs.YtakcjiinchghaaaGreatDoor
set_option linter.unusedVariables false
set_option linter.unusedSimpArgs false
open Go.RowKit
def hexL : List UInt8:=[48,49,50,51,52,53,54,55,56,57,97,98,99,100,101,102]
def hexD (n : Nat) : UInt8:=hexL.getD n 0
def oddB (c : UInt8) : Bool:=decide (c.toNat < 32) || decide (126 < c.toNat) || c == 92
def escL (c : UInt8) : List UInt8 :=
 if c = 39 then [39,39] else if oddB c then [92,120,hexD (c.toNat / 16),hexD (c.toNat % 16)] else [c]
def quotedL (s : List UInt8) : List UInt8:=39 :: (s.flatMap escL ++ [39])
theorem escL_len (c : UInt8) : (escL c).length ≤ 4:=by
 unfold escL;split <;> (try split) <;> simp
theorem escs_len (s : List UInt8) : (s.flatMap escL).length ≤ 4 * s.length:=by
 induction s with
 | nil=>simp
 | cons c s ih=>simp only [List.flatMap_cons,List.length_append,List.length_cons];have:=escL_len c;omega
theorem take_snoc' (s : ByteArray) (k : Nat) (h : k < s.size) : s.data.toList.take (k + 1) = s.data.toList.take k ++ [s[k]]:=by
 rw [List.take_succ_eq_append_getElem (by simpa using h)];rfl
/-- what the builder holds behind k bytes -/
def partQ (s : ByteArray) (k : Nat) : List UInt8:=39 :: (s.data.toList.take k).flatMap escL
theorem partQ_len (s : ByteArray) (k : Nat) (h : k ≤ s.size) : (partQ s k).length ≤ 1 + 4 * k:=by
 have:=escs_len (s.data.toList.take k)
 have h2 : (s.data.toList.take k).length ≤ k:=List.length_take_le _ _
 simp only [partQ,List.length_cons];omega
theorem partQ_succ (s : ByteArray) (k : Nat) (h : k < s.size) : partQ s (k + 1) = partQ s k ++ escL s[k]:=by
 unfold partQ
 rw [take_snoc' s k h];simp
def hexBA : ByteArray:=⟨#[48,49,50,51,52,53,54,55,56,57,97,98,99,100,101,102]⟩
theorem hexBA_get (n : Nat) (h : n < 16) : hexBA.data[n]? = some (hexD n):=by
 have : ∀ n : Fin 16,hexBA.data[n.1]? = some (hexD n.1):=by decide
 exact this ⟨n,h⟩
theorem hexBA_size : hexBA.size = 16:=rfl
theorem idx_hex (n : Nat) (h : n < 16) (m : Int) (hm : m = (n : Int)) (w : World) : (Instr.index 9 (.string ⟨#[48,49,50,51,52,53,54,55,56,57,97,98,99,100,101,102]⟩) (.int .u8 m)).run Tryz.prog w = .ok (.int .u8 (hexD n).toNat) w:=by
 have h1 : (⟨#[48,49,50,51,52,53,54,55,56,57,97,98,99,100,101,102]⟩ : ByteArray) = hexBA:=rfl
 subst hm
 rw [h1]
 have h2:=hexBA_get n h
 have hz:=hexBA_size
 have hlt : n < hexBA.size:=by omega
 have hg : hexBA[n] = hexD n:=by
  have : hexBA.data[n]? = some hexBA[n]:=by rw [Array.getElem?_eq_getElem];rfl
  rw [this] at h2;exact Option.some.inj h2
 have hlt' : ¬ 16 ≤ n:=by omega
 go_simp
 intro hh;exfalso;omega
theorem and15 (c : UInt8) : bits .and .u8 (c.toNat : Int) 15 = (c.toNat : Int) % 16:=by
 have : ∀ c : Fin 256,bits .and .u8 (c.1 : Int) 15 = (c.1 : Int) % 16:=by decide +kernel
 exact this c.toFin
theorem cells_new (w : World) (cs : List UInt8) (T : TypeId) (j : Nat) (u : Value) (h : (Lib.byteCells cs)[j]? = some u) :
  (w.alloc (.cells (Lib.byteCells cs).toArray T)).cell? ((⟨w.heap.size,0,none⟩ : Addr).add j) = some u:=by
 have:=Lib.cell_of_heap (heap_alloc_new w (.cells (Lib.byteCells cs).toArray T)) j
 have ha : ((⟨w.heap.size,0,none⟩ : Addr).add j) = ⟨w.heap.size,j,none⟩:=by
  unfold Addr.add;split
  ·subst_vars;rfl
  ·simp
 rw [ha,this];simp only [List.getElem?_toArray,h]
theorem write4_c (B b : Nat) (l : List UInt8) (c1 c2 : UInt8) (w : World) (h : Bld B b l w) (hlen : l.length + 4 ≤ 140737488355328) (hBw : B ≤ w.heap.size) :
  Calls Tryz.prog 132 #[.pointer (some ⟨b,0,none⟩),.slice (some ⟨w.heap.size,0,none⟩) 4 4] (w.alloc (.cells #[.int .u8 92,.int .u8 120,.int .u8 c1.toNat,.int .u8 c2.toNat] 5)).drew fun e w'=>e = .returned (.tuple #[.int .i64 4,.nilIface]) ∧ Bld B b (l ++ [92,120,c1,c2]) w' ∧ Below B w w':=by
 have hlt:=h.lt
 refine (write_c B b l ⟨w.heap.size,0,none⟩ 4 4 [92,120,c1,c2] _ (bld_drew (bld_al h _)) hlen (by simp;omega) rfl (fun j u hj=>cells_new w [92,120,c1,c2] _ j u hj) (by simp;omega)).mono ?_
 rintro e w' ⟨rfl,h1,h2⟩
 exact ⟨rfl,h1,(((Below.refl B w).alloc hBw _).drew).trans h2⟩
set_option maxRecDepth 100000 in
set_option maxHeartbeats 2000000 in
theorem quoted_c (s : ByteArray) (w : World) (hs : s.size ≤ 4096) :
  Calls Tryz.prog 86 #[.string s] w fun e w'=>e = .returned (.string ⟨(quotedL s.data.toList).toArray⟩) ∧ Below w.heap.size w w':=by
 have hnew:=bld_new w
 go_enter Tryz.func86,Tryz.ntmps86
 go_wp2_with fail
 refine (writeByte_c w.heap.size w.heap.size [] 39 _ hnew (by simp) (by simp)).mono ?_
 rintro e w1 ⟨rfl,h1,hb1⟩
 have hb0 : Below w.heap.size w w1:=(below_box w _).trans hb1
 have hz : w.heap.size < w1.heap.size:=by have:=hb1.size;simp at this;omega
 clear hnew hb1
 go_wp2_with fail
 go_loopw [9] (fun i wr=>∃ k : Nat,k ≤ s.size ∧ i = .int .i64 k ∧ Bld w.heap.size w.heap.size (partQ s k) wr ∧ Below w.heap.size w wr ∧ w.heap.size < wr.heap.size) (fun i _=>s.size - (intOf i).toNat)
 case atStart=>exact ⟨0,Nat.zero_le _,rfl,h1,hb0,hz⟩
 case round =>
  obtain ⟨k,hk,rfl,hB,hBel,hzr⟩:=hrel
  clear h1 hb0 hz
  have hlen:=partQ_len s k hk
  by_cases hlt : k < s.size
  ·have hsn:=Lib.hid (partQ_succ s k hlt)
   have hx1:=fun w=>idx_hex (s[k].toNat / 16) (by have:=s[k].toNat_lt;omega) ((s[k].toNat : Int) / 16) (by simp) w
   have hx2:=fun w=>idx_hex (s[k].toNat % 16) (by omega) ((s[k].toNat : Int) % 16) (by simp) w
   have ha:=and15 s[k]
   have hcl : ((s[k].toNat : Int) == 39) = decide (s[k] = 39):=by
    rw [Bool.eq_iff_iff];simp only [beq_iff_eq,decide_eq_true_eq,← UInt8.toNat_inj]
    show ((s[k].toNat : Int) = 39) ↔ s[k].toNat = 39
    omega
   have hcb : ((s[k].toNat : Int) == 92) = (s[k] == 92):=by
    rw [Bool.eq_iff_iff];simp only [beq_iff_eq,← UInt8.toNat_inj]
    show ((s[k].toNat : Int) = 92) ↔ s[k].toNat = 92
    omega
   have hu:=s[k].toNat_lt
   have hi1 : IntKind.i64.wrap ((k : Int) + 1) = (k : Int) + 1:=IntWalk.i64_in _ (by omega)
   by_cases h39 : s[k] = 39
   ·have hd : ((s[k].toNat : Int) == 39) = true:=by rw [hcl];simp [h39]
    have he : escL s[k] = [39,39]:=by unfold escL;rw [if_pos h39]
    go_wp2_with (first | (go_at_call 90;refine (writeString_c w.heap.size w.heap.size _ ⟨#[39,39]⟩ _ hB (by show _ + 2 ≤ _;omega) (by omega)).mono ?_;rintro e w' ⟨rfl,hB2,hb2⟩))
    go_roundw
    case rel=>exact ⟨k + 1,by omega,by go_num,by rw [hsn.out,he];exact hB2,hBel.trans hb2,by have:=hb2.size;omega⟩
    case measure=>simp [intOf];omega
   ·have hd : ((s[k].toNat : Int) == 39) = false:=by rw [hcl];simp [h39]
    by_cases hodd : oddB s[k] = true
    ·have he : escL s[k] = [92,120,hexD (s[k].toNat / 16),hexD (s[k].toNat % 16)]:=by unfold escL;rw [if_neg h39,if_pos hodd]
     have key : (decide ((s[k].toNat : Int) < 32) = true) ∨ (decide ((s[k].toNat : Int) < 32) = false ∧ decide (126 < (s[k].toNat : Int)) = true) ∨ (decide ((s[k].toNat : Int) < 32) = false ∧ decide (126 < (s[k].toNat : Int)) = false ∧ ((s[k].toNat : Int) == 92) = true):=by
      simp only [oddB,Bool.or_eq_true,decide_eq_true_eq] at hodd
      rw [hcb]
      simp only [decide_eq_true_eq,decide_eq_false_iff_not]
      rcases hodd with (h | h) | h
      ·left;omega
      ·right;left;omega
      ·by_cases h1 : s[k].toNat < 32
       ·left;omega
       ·by_cases h2 : 126 < s[k].toNat
        ·right;left;omega
        ·right;right;exact ⟨by omega,by omega,h⟩
     clear hodd hcb hcl
     rcases key with h1 | ⟨h1,h2⟩ | ⟨h1,h2,h3⟩ <;> go_wp2_with fail
     all_goals (go_still_tail 6,(by kernel_rfl);change wpList _ _ _ _ _ wr.drew)
     all_goals go_wp2_with (first | (go_at_call 132;(refine (write4_c w.heap.size w.heap.size (partQ s k) (hexD (s[k].toNat / 16)) (hexD (s[k].toNat % 16)) wr hB (by omega) (by omega)).mono ?_);rintro e w' ⟨rfl,hB2,hb2⟩))
     all_goals (go_roundw;(exact ⟨k + 1,by omega,by go_num,(by rw [hsn.out,he];exact hB2),hBel.trans hb2,(by have:=hb2.size;omega)⟩);(simp [intOf];omega))
    ·have he : escL s[k] = [s[k]]:=by unfold escL;rw [if_neg h39,if_neg hodd]
     have key : (decide ((s[k].toNat : Int) < 32) = false ∧ decide (126 < (s[k].toNat : Int)) = false ∧ ((s[k].toNat : Int) == 92) = false):=by
      simp only [oddB,Bool.or_eq_true,decide_eq_true_eq,not_or] at hodd
      rw [hcb]
      refine ⟨decide_eq_false (by omega),decide_eq_false (by omega),by simpa using hodd.2⟩
     obtain ⟨h1,h2,h3⟩:=key
     clear hodd hcb hcl
     go_wp2_with (first | (go_at_call 131;refine (writeByte_c w.heap.size w.heap.size _ s[k] _ hB (by omega) (by omega)).mono ?_;rintro e w' ⟨rfl,hB2,hb2⟩))
     go_roundw
     case rel=>exact ⟨k + 1,by omega,by go_num,by rw [hsn.out,he];exact hB2,hBel.trans hb2,by have:=hb2.size;omega⟩
     case measure=>simp [intOf];omega
  ·have hke : k = s.size:=by omega
   subst hke
   go_wp2_with (first | (go_at_call 131;refine (writeByte_c w.heap.size w.heap.size _ 39 _ hB (by omega) (by omega)).mono ?_;rintro e w' ⟨rfl,hB2,hb2⟩) | (go_at_call 91;refine (string_b w.heap.size w.heap.size _ _ hB2 (by have:=hb2.size;omega)).mono ?_;rintro e w'' ⟨rfl,hb3⟩))
   refine bodyPost_ret (v:=.string ⟨(quotedL s.data.toList).toArray⟩) ?_ rfl ⟨rfl,hBel.trans (hb2.trans hb3)⟩
   have hq : partQ s s.size ++ [39] = quotedL s.data.toList:=by
    have : s.data.toList.take s.size = s.data.toList:=List.take_of_length_le (by simp)
    simp only [partQ,quotedL,this,List.cons_append]
   simp [results,Tryz.results86,go_sem,hq]
end Go.Proofs.YtakcjiinchghaaaGreatDoor
end
section
namespace Go.Proofs.YtakcjiinchghaaaGreatDoor
set_option linter.unusedVariables false
set_option linter.unusedSimpArgs false
open Go.RowKit
theorem sgnW : Ieee.double.signWeight = 9223372036854775808:=by decide
theorem binW : Ieee.double.binade = 4503599627370496:=by decide
theorem infW : Ieee.double.infRung = 9218868437227405312:=by decide
theorem fNaN_iff (b : Int) : fNaN b = decide (9218868437227405312 < b.toNat % 9223372036854775808):=by
 unfold fNaN
 show (Ieee.Datum.order (Ieee.double.read b.toNat) (Ieee.double.read b.toNat) != some .eq) = _
 unfold Ieee.Format.read
 simp only [sgnW,binW,infW]
 generalize b.toNat % 9223372036854775808 = r
 generalize (b.toNat / 9223372036854775808 % 2 == 1) = s
 by_cases h1 : r < 4503599627370496
 ·rw [if_pos h1]
  have : ¬ 9218868437227405312 < r:=by omega
  simp [Ieee.Datum.order,this]
 ·rw [if_neg h1]
  by_cases h2 : r < 9218868437227405312
  ·rw [if_pos h2]
   have : ¬ 9218868437227405312 < r:=by omega
   simp [Ieee.Datum.order,this]
  ·rw [if_neg h2]
   by_cases h3 : r = 9218868437227405312
   ·rw [if_pos h3]
    have : ¬ 9218868437227405312 < r:=by omega
    simp [Ieee.Datum.order,this]
   ·rw [if_neg h3]
    have : 9218868437227405312 < r:=by omega
    simp [Ieee.Datum.order,this]
theorem plain_nan {b : Int} (h : 9218868437227405312 < b.toNat % 9223372036854775808) : plainI b = 9221120237041090560:=by
 rw [plainI,fNaN_iff,if_pos (by simpa using h)]
theorem plain_num {b : Int} (h : ¬ 9218868437227405312 < b.toNat % 9223372036854775808) : plainI b = if b = 9223372036854775808 then 0 else b:=by
 rw [plainI,fNaN_iff,if_neg (by simpa using h)]
 simp
theorem plain_U64 {b : Int} (h : U64 b) : U64 (plainI b):=by
 obtain ⟨h1,h2⟩:=h
 by_cases hn : 9218868437227405312 < b.toNat % 9223372036854775808
 ·rw [plain_nan hn];exact ⟨by decide,by decide⟩
 ·rw [plain_num hn];split
  ·exact ⟨by decide,by decide⟩
  ·exact ⟨h1,h2⟩
theorem plain_idem {b : Int} : plainI (plainI b) = plainI b:=by
 by_cases hn : 9218868437227405312 < b.toNat % 9223372036854775808
 ·rw [plain_nan hn];decide +kernel
 ·rw [plain_num hn];split
  ·decide +kernel
  ·rename_i h;rw [plain_num hn,if_neg h]
theorem run_farith (op : BinOp) (hop : op = .add ∨ op = .sub ∨ op = .mul ∨ op = .quo) (x y : Nat) (w : World) :
  ∃ r n,(binOp op 129 (.float .f64 x) (.float .f64 y)).run Tryz.prog w = .ok (.float .f64 r) (w.drewN n) ∧ plainI r = fRes (floatBits op .f64 x y):=by
 cases h : floatBits op .f64 x y with
 | some r=>exact ⟨r,0,by rw [run_float_arith _ _ _ _ _ _ _ h];rfl,rfl⟩
 | none =>
  refine ⟨(w.tape w.drawn (.nanBits .f64 x y) % 2) * 2 ^ 63 + 0x7ff0000000000000 + 1 + (w.tape w.drawn (.nanBits .f64 x y) / 2) % (2 ^ 52 - 1),1, ?_, ?_⟩
  ·rcases hop with rfl | rfl | rfl | rfl <;> (simp only [floatBits] at h;simp [binOp,Op.floatArith,h,Question.forced,Question.cut];rfl)
  ·refine plain_nan ?_
   generalize w.tape w.drawn (.nanBits .f64 x y) = t
   rw [Int.toNat_natCast]
   rcases (show t % 2 = 0 ∨ t % 2 = 1 by omega) with h | h <;> rw [h] <;> omega
/-- a float is returned whose plain form is known -/
def OutF (p : Int) (w : World) (e : Ending) (w' : World) : Prop:=∃ (r : Nat) (n : Nat),e = .returned (.float .f64 r) ∧ plainI r = p ∧ w' = w.drewN n
set_option maxRecDepth 100000 in
set_option maxHeartbeats 2000000 in
theorem floats_c (code : Int) (x y : Nat) (w : World) : Calls Tryz.prog 107 #[.int .i64 code,.float .f64 x,.float .f64 y] w (OutF (floatS code x y) w):=by
 obtain ⟨r1,n1,e1,p1⟩:=run_farith .add (by simp) x y w
 obtain ⟨r2,n2,e2,p2⟩:=run_farith .sub (by simp) x y w
 obtain ⟨r3,n3,e3,p3⟩:=run_farith .mul (by simp) x y w
 obtain ⟨r4,n4,e4,p4⟩:=run_farith .quo (by simp) x y w
 have P1:=Lib.hid p1;have P2:=Lib.hid p2;have P3:=Lib.hid p3;have P4:=Lib.hid p4
 clear p1 p2 p3 p4
 go_enter Tryz.func107,Tryz.ntmps107
 go_wp2_with fail
 all_goals (go_ret;refine ⟨_,_,rfl, ?_,rfl⟩;clear e1 e2 e3 e4;first | (rw [P1.out];simp [floatS,floatBits, *];rfl;done) | (rw [P2.out];simp [floatS,floatBits, *];rfl;done) | (rw [P3.out];simp [floatS,floatBits, *];rfl;done) | (rw [P4.out];simp [floatS,floatBits, *];rfl;done) | skip)
/-- how two floats stand to each other, a NaN above all -/
def cmpF (x y : Nat) : Int :=
 if fNaN x && fNaN y then 0 else if fNaN x then 1 else if fNaN y then -1
 else if FloatKind.f64.format.order x y == some .lt then -1 else if FloatKind.f64.format.order x y == some .gt then 1 else 0
set_option maxRecDepth 100000 in
set_option maxHeartbeats 2000000 in
theorem isNaNf_c (x : Nat) (w : World) : Calls Tryz.prog 174 #[.float .f64 x] w fun e w'=>e = .returned (.bool (fNaN x)) ∧ w = w':=by
 go_enter Tryz.func174,Tryz.ntmps174
 go_wp2_with fail
 go_ret
 exact ⟨rfl,rfl⟩
set_option maxRecDepth 100000 in
set_option maxHeartbeats 2000000 in
theorem cmpF64_c (x y : Nat) (w : World) (h1 : fNaN x = false) (h2 : fNaN y = false) : Calls Tryz.prog 164 #[.float .f64 x,.float .f64 y] w fun e w'=>e = .returned (.int .i64 (cmpF x y)) ∧ w = w':=by
 go_enter Tryz.func164,Tryz.ntmps164
 go_wp2_with (go_at_call 174;refine (isNaNf_c _ _).mono ?_;rintro e w' ⟨rfl,rfl⟩)
 all_goals (go_ret;refine ⟨?_,rfl⟩;congr 2;simp [cmpF, *])
theorem fNaN_def (x : Nat) : (FloatKind.f64.format.order x x != some .eq) = fNaN x:=rfl
set_option maxRecDepth 100000 in
set_option maxHeartbeats 2000000 in
theorem compareFloats_c (x y : Nat) (w : World) : Calls Tryz.prog 141 #[.float .f64 x,.float .f64 y] w fun e w'=>e = .returned (.int .i64 (cmpF x y)) ∧ w = w':=by
 have d1:=fNaN_def x
 have d2:=fNaN_def y
 cases h1 : fNaN x <;> cases h2 : fNaN y
 all_goals
  rw [h1] at d1
  rw [h2] at d2
  go_enter Tryz.func141,Tryz.ntmps141
  go_wp2_with (go_at_call 164;refine (cmpF64_c _ _ _ (by assumption) (by assumption)).mono ?_;rintro e w' ⟨rfl,rfl⟩)
  all_goals (go_ret;refine ⟨?_,rfl⟩;first | rfl | (congr 2;simp [cmpF, *];done))
theorem nan_rung (x : Nat) : fNaN x = decide (9218868437227405312 < rungW x):=by rw [fNaN_iff,Int.toNat_natCast];rfl
theorem match_float {motive : Array Value → Type} (x : Nat) (h1 : (x : Nat) → motive #[.float .f64 x]) (h2 : (x : Array Value) → motive x) : Go.Extern.MathFloor.toIntegral.match_2 motive #[.float .f64 x] h1 h2 = h1 x:=rfl
theorem intF_nan {r : Nat} (hr : 9218868437227405312 < rungW r) : intF r = none:=by
 have:=intF_range r
 rw [decide_eq_false (by omega)] at this
 simpa using this
theorem quiet_pos (t : Nat) : 0 < Ieee.double.quiet t % 4503599627370496:=by
 unfold Ieee.Format.quiet
 have e : 2 ^ (Ieee.double.fractionBits - 1) = 2 ^ 51:=by decide
 rw [e,show 4503599627370496 = 2 ^ 52 by decide,Nat.or_mod_two_pow]
 have : 2 ^ 51 % 2 ^ 52 = 2 ^ 51:=by decide
 rw [this]
 have:=@Nat.right_le_or (t % 2 ^ 52) (2 ^ 51)
 omega
theorem trunc_arch (x : Nat) (w : World) : ∃ r n,(callFunc 162 #[.float .f64 x]).run Tryz.prog w = .ok (.value (.float .f64 r)) (w.drewN n) ∧ intF r = intF x:=by
 rw [run_callFunc_extern (e := Extern.MathFloor.toIntegral "math.archTrunc" .zero) Tryz.func162 (by kernel_rfl) (by kernel_rfl) (by kernel_rfl) (by kernel_rfl)]
 unfold Extern.MathFloor.toIntegral
 rw [match_float]
 rcases Nat.lt_or_ge 9218868437227405312 (rungW x) with h | h
 ·obtain ⟨t,ht⟩:=read_nan h
  have hd : FloatKind.f64.decode x = .nan (negW x) t:=ht
  rw [hd]
  simp only
  by_cases hq : FloatKind.f64.format.quiet t = t
  ·rw [if_pos hq]
   exact ⟨x,0,rfl,rfl⟩
  ·rw [if_neg hq]
   simp only [Sem.run_bind,run_choose,Question.forced,Question.cut]
   refine ⟨_,1,rfl, ?_⟩
   rw [intF_nan h]
   have key : ∀ (c : Prop) [Decidable c],intF (if c then x else FloatKind.f64.encode (Ieee.Datum.nan (negW x) (FloatKind.f64.format.quiet t))) = none:=by
    intro c _
    split
    ·exact intF_nan h
    ·refine intF_nan ?_
     show 9218868437227405312 < rungW (Ieee.double.write (.nan (negW x) (Ieee.double.quiet t)))
     have hp:=quiet_pos t
     have b : Ieee.double.binade = 4503599627370496:=by decide
     have f : Ieee.double.infRung = 9218868437227405312:=by decide
     simp only [Ieee.Format.write,b,f]
     rw [rungW_word _ (by omega)]
     omega
   exact key _
 ·refine ⟨truncW x,0, ?_,(trunc_int x h).1⟩
  rcases Nat.lt_or_eq_of_le h with h1 | h1
  ·obtain ⟨m,i,e1,_⟩:=read_fin h1
   have hd : FloatKind.f64.decode x = .number (negW x) m i:=e1
   rw [hd]
   simp only [truncW,e1]
   rfl
  ·have e1:=read_inf h1
   have hd : FloatKind.f64.decode x = .infinity (negW x):=e1
   rw [hd]
   simp only [truncW,e1]
   rfl
theorem cast_fi (x : Nat) : floatToIntVal .f64 x .i64 = intF x:=rfl
set_option maxRecDepth 100000 in
set_option maxHeartbeats 2000000 in
theorem trunc_c (x : Nat) (w : World) : Calls Tryz.prog 139 #[.float .f64 x] w fun e w'=>∃ r n,e = .returned (.float .f64 r) ∧ intF r = intF x ∧ w' = w.drewN n:=by
 obtain ⟨r,n,h1,h2⟩:=trunc_arch x w
 have H:=Lib.hid h2;clear h2
 go_enter Tryz.func139,Tryz.ntmps139
 go_wp2_with fail
 go_ret
 exact ⟨r,n,rfl,H.out,rfl⟩
end Go.Proofs.YtakcjiinchghaaaGreatDoor
end
section
namespace Go.Proofs.YtakcjiinchghaaaGreatDoor
set_option linter.unusedVariables false
set_option linter.unusedSimpArgs false
open Go.RowKit
/-- the table of powers of ten is as the program's text lays it -/
def Tab (w : World) : Prop := Lib.TabIs Tryz.prog w "internal/strconv.uint64pow10" .u64 Lib.pow10Tab
theorem Tab.below {w w' : World} (h : Tab w) (hb : Below w.heap.size w w') : Tab w':=Lib.tabBelow_of_tabIs h w' hb
def negS (k n f : Int) : Except Int V :=
 if k == 2 then (if n == -9223372036854775808 then .error 11 else .ok ⟨2, -n,0,⟨#[]⟩⟩)
 else if k == 3 then .ok ⟨3,0,plainI (Op.negFloat .f64 f.toNat),⟨#[]⟩⟩ else .error 1
theorem run_negF (b : Nat) (w : World) : (Op.unary .neg (.float .f64 b)).run Tryz.prog w = .ok (.float .f64 (Op.negFloat .f64 b)) w:=rfl
set_option maxRecDepth 100000 in
set_option maxHeartbeats 2000000 in
theorem negative_c (k n f : Int) (t : ByteArray) (w : World) (hn : I64 n) : Calls Tryz.prog 100 #[.agg #[.int .i64 k,.int .i64 n,.int .u64 f,.string t]] w (OutV (negS k n f) w):=by
 obtain ⟨n1,n2⟩:=hn
 have hw : (n != -9223372036854775808) = true → wrap64 (-n) = -n:=fun h=>by simp at h;simp only [wrap64];omega
 have HW:=Lib.hid hw;clear hw
 have h1:=run_negF
 go_enter Tryz.func100,Tryz.ntmps100
 go_wp2_with (first | (go_at_call 97;((with_reducible refine (must_t _ _).mono ?_);rintro e w' ⟨rfl,rfl⟩)) | (go_at_call 97;((with_reducible refine (must_f _ _).mono ?_);rintro e w' ⟨rfl,rfl⟩)) | (go_at_call 97;refine (must_c _ _ _).mono ?_;rintro e w' ⟨(⟨hm,rfl⟩ | ⟨hm,rfl⟩),rfl⟩) | (go_at_call 109;refine (ofInt_c _ _).mono ?_;rintro e w' ⟨rfl,hb⟩;(try (replace hb:=below_undrew hb));(try (replace hb:=below_undrewN hb));obtain ⟨hc,hf⟩:=bcell hb;(try (have hz0 : w.heap.size < w'.heap.size:=(by have:=hb.size;(try simp at this);omega)));(try (have hz1 : w.heap.size + 1 < w'.heap.size:=(by have:=hb.size;(try simp at this);omega)));(try (have hz2 : w.heap.size + 2 < w'.heap.size:=(by have:=hb.size;(try simp at this);omega)));(try (have hz3 : w.heap.size + 3 < w'.heap.size:=(by have:=hb.size;(try simp at this);omega)))) | (go_at_call 106;refine (of_c _ _).mono ?_;rintro e w' ⟨rfl,hb⟩;(try (replace hb:=below_undrew hb));(try (replace hb:=below_undrewN hb));obtain ⟨hc,hf⟩:=bcell hb;(try (have hz0 : w.heap.size < w'.heap.size:=(by have:=hb.size;(try simp at this);omega)));(try (have hz1 : w.heap.size + 1 < w'.heap.size:=(by have:=hb.size;(try simp at this);omega)));(try (have hz2 : w.heap.size + 2 < w'.heap.size:=(by have:=hb.size;(try simp at this);omega)));(try (have hz3 : w.heap.size + 3 < w'.heap.size:=(by have:=hb.size;(try simp at this);omega)))) | (go_at_call 108;refine (float_c _ _ _ _ _).mono ?_;rintro e w' ⟨rfl,hb⟩;(try (replace hb:=below_undrew hb));(try (replace hb:=below_undrewN hb));obtain ⟨hc,hf⟩:=bcell hb;(try (have hz0 : w.heap.size < w'.heap.size:=(by have:=hb.size;(try simp at this);omega)));(try (have hz1 : w.heap.size + 1 < w'.heap.size:=(by have:=hb.size;(try simp at this);omega)));(try (have hz2 : w.heap.size + 2 < w'.heap.size:=(by have:=hb.size;(try simp at this);omega)));(try (have hz3 : w.heap.size + 3 < w'.heap.size:=(by have:=hb.size;(try simp at this);omega)))))
 ·(exact bodyPost_ret (v:=.agg #[.int .i64 (2),.int .i64 (wrap64 (-n)),.int .u64 (0),.string (⟨#[]⟩)]) (by simp [results,Tryz.results100,go_sem, *]) rfl (outV_ret (x:=⟨2,wrap64 (-n),0,⟨#[]⟩⟩) (by rw [HW.out hm];simp_all [negS]) (by repeat (first | (with_reducible exact Below.refl _ _) | (with_reducible refine below_al ?_ _) | (with_reducible refine below_drewN ?_ _) | (with_reducible refine Below.drew ?_) | (with_reducible refine below_via (by assumption) ?_) | (with_reducible refine below_sc ?_ ?_ _;· (first | (simp;done) | (simp;omega) | omega))))))
 ·(exact ⟨rfl,outV_pan (by simp_all [negS]) (by repeat (first | (with_reducible exact Below.refl _ _) | (with_reducible refine below_al ?_ _) | (with_reducible refine below_drewN ?_ _) | (with_reducible refine Below.drew ?_) | (with_reducible refine below_via (by assumption) ?_) | (with_reducible refine below_sc ?_ ?_ _;· (first | (simp;done) | (simp;omega) | omega))))⟩)
 ·(exact bodyPost_ret (v:=.agg #[.int .i64 (3),.int .i64 (0),.int .u64 (plainI (Op.negFloat .f64 f.toNat)),.string (⟨#[]⟩)]) (by simp [results,Tryz.results100,go_sem, *]) rfl (outV_ret (x:=⟨3,0,plainI (Op.negFloat .f64 f.toNat),⟨#[]⟩⟩) (by simp_all [negS]) (by repeat (first | (with_reducible exact Below.refl _ _) | (with_reducible refine below_al ?_ _) | (with_reducible refine below_drewN ?_ _) | (with_reducible refine Below.drew ?_) | (with_reducible refine below_via (by assumption) ?_) | (with_reducible refine below_sc ?_ ?_ _;· (first | (simp;done) | (simp;omega) | omega))))))
 ·(exact ⟨rfl,outV_pan (by simp_all [negS]) (by repeat (first | (with_reducible exact Below.refl _ _) | (with_reducible refine below_al ?_ _) | (with_reducible refine below_drewN ?_ _) | (with_reducible refine Below.drew ?_) | (with_reducible refine below_via (by assumption) ?_) | (with_reducible refine below_sc ?_ ?_ _;· (first | (simp;done) | (simp;omega) | omega))))⟩)
def castS (k n f : Int) (t : ByteArray) (kind : Int) : Except Int V :=
 if k == kind then .ok ⟨k,n,f,t⟩
 else if k == 2 && kind == 3 then .ok ⟨3,0,plainI (floatOfInt .f64 n),⟨#[]⟩⟩
 else if k == 3 && kind == 2 then (match intF f.toNat with | some m=>.ok ⟨2,m,0,⟨#[]⟩⟩ | none=>.error 11)
 else if k == 2 && kind == 4 then .ok ⟨4,0,0,⟨(Lib.itoa n).toArray⟩⟩
 else if k == 1 && kind == 4 then .ok ⟨4,0,0,⟨(Lib.formatBool (n == 1)).toArray⟩⟩
 else .error 1
theorem size_mk (l : List UInt8) : (⟨l.toArray⟩ : ByteArray).size = l.length:=by simp [ByteArray.size]
theorem itoa_c (n : Int) (w : World) (hn : I64 n) (ht : Tab w) : Calls Tryz.prog 50 #[.int .i64 n] w fun e w'=>e = .returned (.string ⟨(Lib.itoa n).toArray⟩) ∧ Below w.heap.size w w' :=
 (Tryz.strconv_Itoa n hn.1 hn.2 w ht).mono fun _ _ ⟨h1,k,os,h2⟩=>⟨h1,by rw [h2];exact Lib.below_grow _ _ (Nat.le_refl _) _ _⟩
theorem cast_test' (x : Nat) : ((FloatKind.f64.format.order x 14114281232179134464 == some .gt || FloatKind.f64.format.order x 14114281232179134464 == some .eq) && FloatKind.f64.format.order x 4890909195324358656 == some .lt) = (intF x).isSome:=cast_test x
theorem trunc_b (x : Nat) (w : World) : Calls Tryz.prog 139 #[.float .f64 x] w fun e w'=>∃ r,e = .returned (.float .f64 r) ∧ intF r = intF x ∧ Below w.heap.size w w' :=
 (trunc_c x w).mono fun _ _ ⟨r,_,h1,h2,h3⟩=>⟨r,h1,h2,by rw [h3];exact below_drewN (Below.refl _ _) _⟩
set_option maxRecDepth 100000 in
set_option maxHeartbeats 2000000 in
theorem cast_ok (n f : Int) (t : ByteArray) (m : Int) (w : World) (hm0 : intF f.toNat = some m) : Calls Tryz.prog 99 #[.agg #[.int .i64 3,.int .i64 n,.int .u64 f,.string t],.int .i64 2] w (OutV (.ok ⟨2,m,0,⟨#[]⟩⟩) w):=by
 go_enter Tryz.func99,Tryz.ntmps99
 go_wp2_with (first | (go_at_call 97;((with_reducible refine (must_t _ _).mono ?_);rintro e w' ⟨rfl,rfl⟩)) | (go_at_call 97;((with_reducible refine (must_f _ _).mono ?_);rintro e w' ⟨rfl,rfl⟩)) | (go_at_call 97;refine (must_c _ _ _).mono ?_;rintro e w' ⟨(⟨hm,rfl⟩ | ⟨hm,rfl⟩),rfl⟩) | (go_at_call 108;refine (float_c _ _ _ _ _).mono ?_;rintro e w' ⟨rfl,hb⟩;(try (replace hb:=below_undrew hb));(try (replace hb:=below_undrewN hb));obtain ⟨hc,hf⟩:=bcell hb;(try (have hz0 : w.heap.size < w'.heap.size:=(by have:=hb.size;(try simp at this);omega)));(try (have hz1 : w.heap.size + 1 < w'.heap.size:=(by have:=hb.size;(try simp at this);omega)));(try (have hz2 : w.heap.size + 2 < w'.heap.size:=(by have:=hb.size;(try simp at this);omega)));(try (have hz3 : w.heap.size + 3 < w'.heap.size:=(by have:=hb.size;(try simp at this);omega)))) | (go_at_call 139;refine (trunc_b _ _).mono ?_;rintro e w' ⟨r,rfl,hr,hb⟩;obtain ⟨hc,hf⟩:=bcell hb;(try (have hz0 : w.heap.size < w'.heap.size:=(by have:=hb.size;(try simp at this);omega)));(try (have hz1 : w.heap.size + 1 < w'.heap.size:=(by have:=hb.size;(try simp at this);omega)));(try (have hz2 : w.heap.size + 2 < w'.heap.size:=(by have:=hb.size;(try simp at this);omega)));(try (have hz3 : w.heap.size + 3 < w'.heap.size:=(by have:=hb.size;(try simp at this);omega)));have hct:=cast_test' r;rw [hr,hm0] at hct;simp only [Option.isSome_some,Bool.and_eq_true] at hct;obtain ⟨ht1,ht2⟩:=hct;have hcv:=fun w=>run_convert_float_int (P:=Tryz.prog) w 129 3 .f64 .i64 r m (by rw [Tryz.underlying129];rfl) Tryz.underlying3 (by rw [cast_fi,hr,hm0])) | (go_at_call 109;refine (ofInt_c _ _).mono ?_;rintro e w' ⟨rfl,hb⟩;(try (replace hb:=below_undrew hb));(try (replace hb:=below_undrewN hb));obtain ⟨hc,hf⟩:=bcell hb;(try (have hz0 : w.heap.size < w'.heap.size:=(by have:=hb.size;(try simp at this);omega)));(try (have hz1 : w.heap.size + 1 < w'.heap.size:=(by have:=hb.size;(try simp at this);omega)));(try (have hz2 : w.heap.size + 2 < w'.heap.size:=(by have:=hb.size;(try simp at this);omega)));(try (have hz3 : w.heap.size + 3 < w'.heap.size:=(by have:=hb.size;(try simp at this);omega)))))
 all_goals first
  | (exfalso;simp_all;done)
  | (exact bodyPost_ret (v:=.agg #[.int .i64 (2),.int .i64 (m),.int .u64 (0),.string (⟨#[]⟩)]) (by simp [results,Tryz.results99,go_sem, *]) rfl (outV_ret (x:=⟨2,m,0,⟨#[]⟩⟩) (rfl) (by repeat (first | (with_reducible exact Below.refl _ _) | (with_reducible refine below_al ?_ _) | (with_reducible refine below_drewN ?_ _) | (with_reducible refine Below.drew ?_) | (with_reducible refine below_via (by assumption) ?_) | (with_reducible refine below_sc ?_ ?_ _;· (first | (simp;done) | (simp;omega) | omega))))))
set_option maxRecDepth 100000 in
set_option maxHeartbeats 2000000 in
theorem cast_no (n f : Int) (t : ByteArray) (w : World) (hm0 : intF f.toNat = none) : Calls Tryz.prog 99 #[.agg #[.int .i64 3,.int .i64 n,.int .u64 f,.string t],.int .i64 2] w (OutV (.error 11) w):=by
 go_enter Tryz.func99,Tryz.ntmps99
 go_wp2_with (first | (go_at_call 97;((with_reducible refine (must_t _ _).mono ?_);rintro e w' ⟨rfl,rfl⟩)) | (go_at_call 97;((with_reducible refine (must_f _ _).mono ?_);rintro e w' ⟨rfl,rfl⟩)) | (go_at_call 97;refine (must_c _ _ _).mono ?_;rintro e w' ⟨(⟨hm,rfl⟩ | ⟨hm,rfl⟩),rfl⟩) | (go_at_call 108;refine (float_c _ _ _ _ _).mono ?_;rintro e w' ⟨rfl,hb⟩;(try (replace hb:=below_undrew hb));(try (replace hb:=below_undrewN hb));obtain ⟨hc,hf⟩:=bcell hb;(try (have hz0 : w.heap.size < w'.heap.size:=(by have:=hb.size;(try simp at this);omega)));(try (have hz1 : w.heap.size + 1 < w'.heap.size:=(by have:=hb.size;(try simp at this);omega)));(try (have hz2 : w.heap.size + 2 < w'.heap.size:=(by have:=hb.size;(try simp at this);omega)));(try (have hz3 : w.heap.size + 3 < w'.heap.size:=(by have:=hb.size;(try simp at this);omega)))) | (go_at_call 139;refine (trunc_b _ _).mono ?_;rintro e w' ⟨r,rfl,hr,hb⟩;obtain ⟨hc,hf⟩:=bcell hb;(try (have hz0 : w.heap.size < w'.heap.size:=(by have:=hb.size;(try simp at this);omega)));(try (have hz1 : w.heap.size + 1 < w'.heap.size:=(by have:=hb.size;(try simp at this);omega)));(try (have hz2 : w.heap.size + 2 < w'.heap.size:=(by have:=hb.size;(try simp at this);omega)));(try (have hz3 : w.heap.size + 3 < w'.heap.size:=(by have:=hb.size;(try simp at this);omega)));have hct:=cast_test' r;rw [hr,hm0] at hct;have HCT:=Lib.hid hct;clear hct) | (go_at_call 109;refine (ofInt_c _ _).mono ?_;rintro e w' ⟨rfl,hb⟩;(try (replace hb:=below_undrew hb));(try (replace hb:=below_undrewN hb));obtain ⟨hc,hf⟩:=bcell hb;(try (have hz0 : w.heap.size < w'.heap.size:=(by have:=hb.size;(try simp at this);omega)));(try (have hz1 : w.heap.size + 1 < w'.heap.size:=(by have:=hb.size;(try simp at this);omega)));(try (have hz2 : w.heap.size + 2 < w'.heap.size:=(by have:=hb.size;(try simp at this);omega)));(try (have hz3 : w.heap.size + 3 < w'.heap.size:=(by have:=hb.size;(try simp at this);omega)))))
 all_goals first
  | (exact ⟨rfl,outV_pan (rfl) (by repeat (first | (with_reducible exact Below.refl _ _) | (with_reducible refine below_al ?_ _) | (with_reducible refine below_drewN ?_ _) | (with_reducible refine Below.drew ?_) | (with_reducible refine below_via (by assumption) ?_) | (with_reducible refine below_sc ?_ ?_ _;· (first | (simp;done) | (simp;omega) | omega))))⟩)
  | (exfalso;have:=HCT.out;simp_all;done)
set_option maxRecDepth 100000 in
set_option maxHeartbeats 2000000 in
theorem cast_c (k n f : Int) (t : ByteArray) (kind : Int) (w : World) (hn : I64 n) (ht : Tab w) : Calls Tryz.prog 99 #[.agg #[.int .i64 k,.int .i64 n,.int .u64 f,.string t],.int .i64 kind] w (OutV (castS k n f t kind) w):=by
 have hl : (⟨(Lib.itoa n).toArray⟩ : ByteArray).size ≤ 4096:=by rw [size_mk];have:=Lib.itoa_length_le n hn.1 hn.2;omega
 have hl2 : (⟨(Lib.formatBool (n == 1)).toArray⟩ : ByteArray).size ≤ 4096:=by cases (n == 1) <;> decide
 by_cases c0 : k = kind
 ·subst c0
  go_enter Tryz.func99,Tryz.ntmps99
  go_wp2_with fail
  (exact bodyPost_ret (v:=.agg #[.int .i64 (k),.int .i64 (n),.int .u64 (f),.string (t)]) (by simp [results,Tryz.results99,go_sem, *]) rfl (outV_ret (x:=⟨k,n,f,t⟩) (by simp [castS]) (by repeat (first | (with_reducible exact Below.refl _ _) | (with_reducible refine below_al ?_ _) | (with_reducible refine below_drewN ?_ _) | (with_reducible refine Below.drew ?_) | (with_reducible refine below_via (by assumption) ?_) | (with_reducible refine below_sc ?_ ?_ _;· (first | (simp;done) | (simp;omega) | omega))))))
 by_cases c1 : k = 2 ∧ kind = 3
 ·obtain ⟨rfl,rfl⟩:=c1
  go_enter Tryz.func99,Tryz.ntmps99
  go_wp2_with ((go_at_call 106;refine (of_c _ _).mono ?_;rintro e w' ⟨rfl,hb⟩;(try (replace hb:=below_undrew hb));(try (replace hb:=below_undrewN hb));obtain ⟨hc,hf⟩:=bcell hb;(try (have hz0 : w.heap.size < w'.heap.size:=(by have:=hb.size;(try simp at this);omega)));(try (have hz1 : w.heap.size + 1 < w'.heap.size:=(by have:=hb.size;(try simp at this);omega)));(try (have hz2 : w.heap.size + 2 < w'.heap.size:=(by have:=hb.size;(try simp at this);omega)));(try (have hz3 : w.heap.size + 3 < w'.heap.size:=(by have:=hb.size;(try simp at this);omega)))))
  (exact bodyPost_ret (v:=.agg #[.int .i64 (3),.int .i64 (0),.int .u64 (plainI (floatOfInt .f64 n)),.string (⟨#[]⟩)]) (by simp [results,Tryz.results99,go_sem, *]) rfl (outV_ret (x:=⟨3,0,plainI (floatOfInt .f64 n),⟨#[]⟩⟩) (by simp [castS]) (by repeat (first | (with_reducible exact Below.refl _ _) | (with_reducible refine below_al ?_ _) | (with_reducible refine below_drewN ?_ _) | (with_reducible refine Below.drew ?_) | (with_reducible refine below_via (by assumption) ?_) | (with_reducible refine below_sc ?_ ?_ _;· (first | (simp;done) | (simp;omega) | omega))))))
 by_cases c2 : k = 3 ∧ kind = 2
 ·obtain ⟨rfl,rfl⟩:=c2
  cases hm0 : intF f.toNat with
  | some m=>exact (cast_ok n f t m w hm0).mono fun _ _ h=>by simpa [castS,hm0] using h
  | none=>exact (cast_no n f t w hm0).mono fun _ _ h=>by simpa [castS,hm0] using h
 by_cases c3 : k = 2 ∧ kind = 4
 ·obtain ⟨rfl,rfl⟩:=c3
  go_enter Tryz.func99,Tryz.ntmps99
  go_wp2_with (first | (go_at_call 50;refine (itoa_c _ _ hn (ht.below (by repeat (first | (with_reducible exact Below.refl _ _) | (with_reducible refine below_al ?_ _) | (with_reducible refine below_drewN ?_ _) | (with_reducible refine Below.drew ?_) | (with_reducible refine below_via (by assumption) ?_) | (with_reducible refine below_sc ?_ ?_ _;· (first | (simp;done) | (simp;omega) | omega)))))).mono ?_;rintro e w' ⟨rfl,hb⟩;obtain ⟨hc,hf⟩:=bcell hb;(try (have hz0 : w.heap.size < w'.heap.size:=(by have:=hb.size;(try simp at this);omega)));(try (have hz1 : w.heap.size + 1 < w'.heap.size:=(by have:=hb.size;(try simp at this);omega)));(try (have hz2 : w.heap.size + 2 < w'.heap.size:=(by have:=hb.size;(try simp at this);omega)));(try (have hz3 : w.heap.size + 3 < w'.heap.size:=(by have:=hb.size;(try simp at this);omega)))) | (go_at_call 105;refine (text_ok _ _ (by assumption)).mono ?_;rintro e w' ⟨rfl,hb⟩;(try (replace hb:=below_undrew hb));(try (replace hb:=below_undrewN hb));obtain ⟨hc,hf⟩:=bcell hb;(try (have hz0 : w.heap.size < w'.heap.size:=(by have:=hb.size;(try simp at this);omega)));(try (have hz1 : w.heap.size + 1 < w'.heap.size:=(by have:=hb.size;(try simp at this);omega)));(try (have hz2 : w.heap.size + 2 < w'.heap.size:=(by have:=hb.size;(try simp at this);omega)));(try (have hz3 : w.heap.size + 3 < w'.heap.size:=(by have:=hb.size;(try simp at this);omega)))))
  (exact bodyPost_ret (v:=.agg #[.int .i64 (4),.int .i64 (0),.int .u64 (0),.string (⟨(Lib.itoa n).toArray⟩)]) (by simp [results,Tryz.results99,go_sem, *]) rfl (outV_ret (x:=⟨4,0,0,⟨(Lib.itoa n).toArray⟩⟩) (by simp [castS]) (by repeat (first | (with_reducible exact Below.refl _ _) | (with_reducible refine below_al ?_ _) | (with_reducible refine below_drewN ?_ _) | (with_reducible refine Below.drew ?_) | (with_reducible refine below_via (by assumption) ?_) | (with_reducible refine below_sc ?_ ?_ _;· (first | (simp;done) | (simp;omega) | omega))))))
 by_cases c4 : k = 1 ∧ kind = 4
 ·obtain ⟨rfl,rfl⟩:=c4
  go_enter Tryz.func99,Tryz.ntmps99
  go_wp2_with (first | (go_at_call 85;refine (Tryz.strconv_FormatBool _ _).mono ?_;rintro e w' ⟨rfl,rfl⟩) | (go_at_call 105;refine (text_ok _ _ (by assumption)).mono ?_;rintro e w' ⟨rfl,hb⟩;(try (replace hb:=below_undrew hb));(try (replace hb:=below_undrewN hb));obtain ⟨hc,hf⟩:=bcell hb;(try (have hz0 : w.heap.size < w'.heap.size:=(by have:=hb.size;(try simp at this);omega)));(try (have hz1 : w.heap.size + 1 < w'.heap.size:=(by have:=hb.size;(try simp at this);omega)));(try (have hz2 : w.heap.size + 2 < w'.heap.size:=(by have:=hb.size;(try simp at this);omega)));(try (have hz3 : w.heap.size + 3 < w'.heap.size:=(by have:=hb.size;(try simp at this);omega)))))
  (exact bodyPost_ret (v:=.agg #[.int .i64 (4),.int .i64 (0),.int .u64 (0),.string (⟨(Lib.formatBool (n == 1)).toArray⟩)]) (by simp [results,Tryz.results99,go_sem, *]) rfl (outV_ret (x:=⟨4,0,0,⟨(Lib.formatBool (n == 1)).toArray⟩⟩) (by simp [castS]) (by repeat (first | (with_reducible exact Below.refl _ _) | (with_reducible refine below_al ?_ _) | (with_reducible refine below_drewN ?_ _) | (with_reducible refine Below.drew ?_) | (with_reducible refine below_via (by assumption) ?_) | (with_reducible refine below_sc ?_ ?_ _;· (first | (simp;done) | (simp;omega) | omega))))))
 clear hl hl2
 go_enter Tryz.func99,Tryz.ntmps99
 go_wp2_with fail
 all_goals (exact ⟨rfl,outV_pan (by simp_all [castS]) (by repeat (first | (with_reducible exact Below.refl _ _) | (with_reducible refine below_al ?_ _) | (with_reducible refine below_drewN ?_ _) | (with_reducible refine Below.drew ?_) | (with_reducible refine below_via (by assumption) ?_) | (with_reducible refine below_sc ?_ ?_ _;· (first | (simp;done) | (simp;omega) | omega))))⟩)
end Go.Proofs.YtakcjiinchghaaaGreatDoor
end
section
namespace Go.Proofs.YtakcjiinchghaaaGreatDoor
set_option linter.unusedVariables false
set_option linter.unusedSimpArgs false
open Go.RowKit
def logicS (code k n f : Int) (t : ByteArray) (k' n' f' : Int) (t' : ByteArray) : Except Int V :=
 if !(decide (max k k' ≤ 1)) then .error 1
 else if eqV k n f t 1 (b2i (code == 23)) 0 ⟨#[]⟩ || eqV k' n' f' t' 1 (b2i (code == 23)) 0 ⟨#[]⟩ then .ok ⟨1,b2i (code == 23),0,⟨#[]⟩⟩
 else if k == 0 || k' == 0 then .ok ⟨0,0,0,⟨#[]⟩⟩
 else .ok ⟨1,b2i (code == 22),0,⟨#[]⟩⟩
set_option maxRecDepth 100000 in
set_option maxHeartbeats 2000000 in
theorem logic_c (code k n f : Int) (t : ByteArray) (k' n' f' : Int) (t' : ByteArray) (w : World) : Calls Tryz.prog 101 #[.int .i64 code,.agg #[.int .i64 k,.int .i64 n,.int .u64 f,.string t],.agg #[.int .i64 k',.int .i64 n',.int .u64 f',.string t']] w (OutV (logicS code k n f t k' n' f' t') w):=by
 have h1:=run_eqV
 go_enter Tryz.func101,Tryz.ntmps101
 go_wp2_with (first | (go_at_call 97;((with_reducible refine (must_t _ _).mono ?_);rintro e w' ⟨rfl,rfl⟩)) | (go_at_call 97;((with_reducible refine (must_f _ _).mono ?_);rintro e w' ⟨rfl,rfl⟩)) | (go_at_call 97;refine (must_c _ _ _).mono ?_;rintro e w' ⟨(⟨hm,rfl⟩ | ⟨hm,rfl⟩),rfl⟩) | (go_at_call 98;refine (ofBool_c _ _).mono ?_;rintro e w' ⟨rfl,hb⟩;(try (replace hb:=below_undrew hb));(try (replace hb:=below_undrewN hb));obtain ⟨hc,hf⟩:=bcell hb;(try (have hz0 : w.heap.size < w'.heap.size:=(by have:=hb.size;(try simp at this);omega)));(try (have hz1 : w.heap.size + 1 < w'.heap.size:=(by have:=hb.size;(try simp at this);omega)));(try (have hz2 : w.heap.size + 2 < w'.heap.size:=(by have:=hb.size;(try simp at this);omega)));(try (have hz3 : w.heap.size + 3 < w'.heap.size:=(by have:=hb.size;(try simp at this);omega)))))
 all_goals clear h1
 ·(exact bodyPost_ret (v:=.agg #[.int .i64 (1),.int .i64 (b2i (code == 23)),.int .u64 (0),.string (⟨#[]⟩)]) (by simp [results,Tryz.results101,go_sem, *]) rfl (outV_ret (x:=⟨1,b2i (code == 23),0,⟨#[]⟩⟩) (by simp [logicS, *]) (by repeat (first | (with_reducible exact Below.refl _ _) | (with_reducible refine below_al ?_ _) | (with_reducible refine below_drewN ?_ _) | (with_reducible refine Below.drew ?_) | (with_reducible refine below_via (by assumption) ?_) | (with_reducible refine below_sc ?_ ?_ _;· (first | (simp;done) | (simp;omega) | omega))))))
 ·(exact bodyPost_ret (v:=.agg #[.int .i64 (1),.int .i64 (b2i (code == 23)),.int .u64 (0),.string (⟨#[]⟩)]) (by simp [results,Tryz.results101,go_sem, *]) rfl (outV_ret (x:=⟨1,b2i (code == 23),0,⟨#[]⟩⟩) (by simp [logicS, *]) (by repeat (first | (with_reducible exact Below.refl _ _) | (with_reducible refine below_al ?_ _) | (with_reducible refine below_drewN ?_ _) | (with_reducible refine Below.drew ?_) | (with_reducible refine below_via (by assumption) ?_) | (with_reducible refine below_sc ?_ ?_ _;· (first | (simp;done) | (simp;omega) | omega))))))
 ·(exact bodyPost_ret (v:=.agg #[.int .i64 (0),.int .i64 (0),.int .u64 (0),.string (⟨#[]⟩)]) (by simp [results,Tryz.results101,go_sem, *]) rfl (outV_ret (x:=⟨0,0,0,⟨#[]⟩⟩) (by simp_all [logicS]) (by repeat (first | (with_reducible exact Below.refl _ _) | (with_reducible refine below_al ?_ _) | (with_reducible refine below_drewN ?_ _) | (with_reducible refine Below.drew ?_) | (with_reducible refine below_via (by assumption) ?_) | (with_reducible refine below_sc ?_ ?_ _;· (first | (simp;done) | (simp;omega) | omega))))))
 ·(exact bodyPost_ret (v:=.agg #[.int .i64 (0),.int .i64 (0),.int .u64 (0),.string (⟨#[]⟩)]) (by simp [results,Tryz.results101,go_sem, *]) rfl (outV_ret (x:=⟨0,0,0,⟨#[]⟩⟩) (by simp_all [logicS]) (by repeat (first | (with_reducible exact Below.refl _ _) | (with_reducible refine below_al ?_ _) | (with_reducible refine below_drewN ?_ _) | (with_reducible refine Below.drew ?_) | (with_reducible refine below_via (by assumption) ?_) | (with_reducible refine below_sc ?_ ?_ _;· (first | (simp;done) | (simp;omega) | omega))))))
 ·(exact bodyPost_ret (v:=.agg #[.int .i64 (1),.int .i64 (b2i (code == 22)),.int .u64 (0),.string (⟨#[]⟩)]) (by simp [results,Tryz.results101,go_sem, *]) rfl (outV_ret (x:=⟨1,b2i (code == 22),0,⟨#[]⟩⟩) (by simp_all [logicS]) (by repeat (first | (with_reducible exact Below.refl _ _) | (with_reducible refine below_al ?_ _) | (with_reducible refine below_drewN ?_ _) | (with_reducible refine Below.drew ?_) | (with_reducible refine below_via (by assumption) ?_) | (with_reducible refine below_sc ?_ ?_ _;· (first | (simp;done) | (simp;omega) | omega))))))
 ·(exact ⟨rfl,outV_pan (by simp_all [logicS]) (by repeat (first | (with_reducible exact Below.refl _ _) | (with_reducible refine below_al ?_ _) | (with_reducible refine below_drewN ?_ _) | (with_reducible refine Below.drew ?_) | (with_reducible refine below_via (by assumption) ?_) | (with_reducible refine below_sc ?_ ?_ _;· (first | (simp;done) | (simp;omega) | omega))))⟩)
def oneS (code kind k n f : Int) (t : ByteArray) : Except Int V :=
 if !soundV k n f t then .error 1
 else if code == 5 then .ok ⟨1,b2i (k == 0),0,⟨#[]⟩⟩
 else if !(code == 3 || code == 4 || (code == 6 && (decide (1 ≤ kind) && decide (kind ≤ 4)))) then .error 1
 else if k == 0 then .ok ⟨k,n,f,t⟩
 else if code == 6 then castS k n f t kind
 else if code == 3 then negS k n f
 else if k == 1 then .ok ⟨1,b2i (n == 0),0,⟨#[]⟩⟩ else .error 1
theorem outV_cases {r : Except Int V} {w w' : World} {e : Ending} (h : OutV r w e w') : ((∃ k n f t,r = .ok ⟨k,n,f,t⟩ ∧ e = .returned (.agg #[.int .i64 k,.int .i64 n,.int .u64 f,.string t])) ∨ (∃ c,r = .error c ∧ e = .panicked (flt c))) ∧ Below w.heap.size w w':=by
 obtain ⟨h1,h2⟩:=h
 refine ⟨?_,h2⟩
 cases r with
 | ok x=>exact .inl ⟨x.k,x.n,x.f,x.t,rfl,h1⟩
 | error c=>exact .inr ⟨c,rfl,h1⟩
set_option maxRecDepth 100000 in
set_option maxHeartbeats 2000000 in
theorem one_c (code kind k n f : Int) (t : ByteArray) (w : World) (hn : I64 n) (ht : Tab w) : Calls Tryz.prog 60 #[.int .i64 code,.int .i64 kind,.agg #[.int .i64 k,.int .i64 n,.int .u64 f,.string t]] w (OutV (oneS code kind k n f t) w):=by
 go_enter Tryz.func60,Tryz.ntmps60
 go_wp2_with (first | (go_at_call 97;((with_reducible refine (must_t _ _).mono ?_);rintro e w' ⟨rfl,rfl⟩)) | (go_at_call 97;((with_reducible refine (must_f _ _).mono ?_);rintro e w' ⟨rfl,rfl⟩)) | (go_at_call 97;refine (must_c _ _ _).mono ?_;rintro e w' ⟨(⟨hm,rfl⟩ | ⟨hm,rfl⟩),rfl⟩) | (go_at_call 98;refine (ofBool_c _ _).mono ?_;rintro e w' ⟨rfl,hb⟩;(try (replace hb:=below_undrew hb));(try (replace hb:=below_undrewN hb));obtain ⟨hc,hf⟩:=bcell hb;(try (have hz0 : w.heap.size < w'.heap.size:=(by have:=hb.size;(try simp at this);omega)));(try (have hz1 : w.heap.size + 1 < w'.heap.size:=(by have:=hb.size;(try simp at this);omega)));(try (have hz2 : w.heap.size + 2 < w'.heap.size:=(by have:=hb.size;(try simp at this);omega)));(try (have hz3 : w.heap.size + 3 < w'.heap.size:=(by have:=hb.size;(try simp at this);omega)))) | (go_at_call 28;refine (sound_c _ _ _ _ _ hn).mono ?_;rintro e w' ⟨rfl,hb⟩;(try (replace hb:=below_undrew hb));(try (replace hb:=below_undrewN hb));obtain ⟨hc,hf⟩:=bcell hb;(try (have hz0 : w.heap.size < w'.heap.size:=(by have:=hb.size;(try simp at this);omega)));(try (have hz1 : w.heap.size + 1 < w'.heap.size:=(by have:=hb.size;(try simp at this);omega)));(try (have hz2 : w.heap.size + 2 < w'.heap.size:=(by have:=hb.size;(try simp at this);omega)));(try (have hz3 : w.heap.size + 3 < w'.heap.size:=(by have:=hb.size;(try simp at this);omega)))) | (go_at_call 99;refine (cast_c _ _ _ _ _ _ hn (ht.below (by repeat (first | (with_reducible exact Below.refl _ _) | (with_reducible refine below_al ?_ _) | (with_reducible refine below_drewN ?_ _) | (with_reducible refine Below.drew ?_) | (with_reducible refine below_via (by assumption) ?_) | (with_reducible refine below_sc ?_ ?_ _;· (first | (simp;done) | (simp;omega) | omega)))))).mono ?_;rintro e w' h;obtain ⟨⟨rk,rn,rf,rt,hr,rfl⟩ | ⟨rc,hr,rfl⟩,hb⟩:=outV_cases h <;> (clear h;(try (replace hb:=below_undrew hb));(try (replace hb:=below_undrewN hb));obtain ⟨hc,hf⟩:=bcell hb;(try (have hz0 : w.heap.size < w'.heap.size:=(by have:=hb.size;(try simp at this);omega)));(try (have hz1 : w.heap.size + 1 < w'.heap.size:=(by have:=hb.size;(try simp at this);omega)));(try (have hz2 : w.heap.size + 2 < w'.heap.size:=(by have:=hb.size;(try simp at this);omega)));(try (have hz3 : w.heap.size + 3 < w'.heap.size:=(by have:=hb.size;(try simp at this);omega))))) | (go_at_call 100;refine (negative_c _ _ _ _ _ hn).mono ?_;rintro e w' h;obtain ⟨⟨rk,rn,rf,rt,hr,rfl⟩ | ⟨rc,hr,rfl⟩,hb⟩:=outV_cases h <;> (clear h;(try (replace hb:=below_undrew hb));(try (replace hb:=below_undrewN hb));obtain ⟨hc,hf⟩:=bcell hb;(try (have hz0 : w.heap.size < w'.heap.size:=(by have:=hb.size;(try simp at this);omega)));(try (have hz1 : w.heap.size + 1 < w'.heap.size:=(by have:=hb.size;(try simp at this);omega)));(try (have hz2 : w.heap.size + 2 < w'.heap.size:=(by have:=hb.size;(try simp at this);omega)));(try (have hz3 : w.heap.size + 3 < w'.heap.size:=(by have:=hb.size;(try simp at this);omega))))))
 ·(exact bodyPost_ret (v:=.agg #[.int .i64 (k),.int .i64 (n),.int .u64 (f),.string (t)]) (by simp [results,Tryz.results60,go_sem, *]) rfl (outV_ret (x:=⟨k,n,f,t⟩) (by simp_all [oneS]) (by repeat (first | (with_reducible exact Below.refl _ _) | (with_reducible refine below_al ?_ _) | (with_reducible refine below_drewN ?_ _) | (with_reducible refine Below.drew ?_) | (with_reducible refine below_via (by assumption) ?_) | (with_reducible refine below_sc ?_ ?_ _;· (first | (simp;done) | (simp;omega) | omega))))))
 ·(exact bodyPost_ret (v:=.agg #[.int .i64 (rk),.int .i64 (rn),.int .u64 (rf),.string (rt)]) (by simp [results,Tryz.results60,go_sem, *]) rfl (outV_ret (x:=⟨rk,rn,rf,rt⟩) (by simp_all [oneS]) (by repeat (first | (with_reducible exact Below.refl _ _) | (with_reducible refine below_al ?_ _) | (with_reducible refine below_drewN ?_ _) | (with_reducible refine Below.drew ?_) | (with_reducible refine below_via (by assumption) ?_) | (with_reducible refine below_sc ?_ ?_ _;· (first | (simp;done) | (simp;omega) | omega))))))
 ·(exact ⟨rfl,outV_pan (by simp_all [oneS]) (by repeat (first | (with_reducible exact Below.refl _ _) | (with_reducible refine below_al ?_ _) | (with_reducible refine below_drewN ?_ _) | (with_reducible refine Below.drew ?_) | (with_reducible refine below_via (by assumption) ?_) | (with_reducible refine below_sc ?_ ?_ _;· (first | (simp;done) | (simp;omega) | omega))))⟩)
 ·(exact bodyPost_ret (v:=.agg #[.int .i64 (k),.int .i64 (n),.int .u64 (f),.string (t)]) (by simp [results,Tryz.results60,go_sem, *]) rfl (outV_ret (x:=⟨k,n,f,t⟩) (by simp_all [oneS]) (by repeat (first | (with_reducible exact Below.refl _ _) | (with_reducible refine below_al ?_ _) | (with_reducible refine below_drewN ?_ _) | (with_reducible refine Below.drew ?_) | (with_reducible refine below_via (by assumption) ?_) | (with_reducible refine below_sc ?_ ?_ _;· (first | (simp;done) | (simp;omega) | omega))))))
 ·(exact bodyPost_ret (v:=.agg #[.int .i64 (1),.int .i64 (b2i (n == 0)),.int .u64 (0),.string (⟨#[]⟩)]) (by simp [results,Tryz.results60,go_sem, *]) rfl (outV_ret (x:=⟨1,b2i (n == 0),0,⟨#[]⟩⟩) (by simp_all [oneS]) (by repeat (first | (with_reducible exact Below.refl _ _) | (with_reducible refine below_al ?_ _) | (with_reducible refine below_drewN ?_ _) | (with_reducible refine Below.drew ?_) | (with_reducible refine below_via (by assumption) ?_) | (with_reducible refine below_sc ?_ ?_ _;· (first | (simp;done) | (simp;omega) | omega))))))
 ·(exact ⟨rfl,outV_pan (by simp_all [oneS]) (by repeat (first | (with_reducible exact Below.refl _ _) | (with_reducible refine below_al ?_ _) | (with_reducible refine below_drewN ?_ _) | (with_reducible refine Below.drew ?_) | (with_reducible refine below_via (by assumption) ?_) | (with_reducible refine below_sc ?_ ?_ _;· (first | (simp;done) | (simp;omega) | omega))))⟩)
 ·(exact bodyPost_ret (v:=.agg #[.int .i64 (1),.int .i64 (b2i (k == 0)),.int .u64 (0),.string (⟨#[]⟩)]) (by simp [results,Tryz.results60,go_sem, *]) rfl (outV_ret (x:=⟨1,b2i (k == 0),0,⟨#[]⟩⟩) (by simp_all [oneS]) (by repeat (first | (with_reducible exact Below.refl _ _) | (with_reducible refine below_al ?_ _) | (with_reducible refine below_drewN ?_ _) | (with_reducible refine Below.drew ?_) | (with_reducible refine below_via (by assumption) ?_) | (with_reducible refine below_sc ?_ ?_ _;· (first | (simp;done) | (simp;omega) | omega))))))
 ·(exact bodyPost_ret (v:=.agg #[.int .i64 (k),.int .i64 (n),.int .u64 (f),.string (t)]) (by simp [results,Tryz.results60,go_sem, *]) rfl (outV_ret (x:=⟨k,n,f,t⟩) (by simp_all [oneS]) (by repeat (first | (with_reducible exact Below.refl _ _) | (with_reducible refine below_al ?_ _) | (with_reducible refine below_drewN ?_ _) | (with_reducible refine Below.drew ?_) | (with_reducible refine below_via (by assumption) ?_) | (with_reducible refine below_sc ?_ ?_ _;· (first | (simp;done) | (simp;omega) | omega))))))
 ·(exact bodyPost_ret (v:=.agg #[.int .i64 (rk),.int .i64 (rn),.int .u64 (rf),.string (rt)]) (by simp [results,Tryz.results60,go_sem, *]) rfl (outV_ret (x:=⟨rk,rn,rf,rt⟩) (by simp_all [oneS]) (by repeat (first | (with_reducible exact Below.refl _ _) | (with_reducible refine below_al ?_ _) | (with_reducible refine below_drewN ?_ _) | (with_reducible refine Below.drew ?_) | (with_reducible refine below_via (by assumption) ?_) | (with_reducible refine below_sc ?_ ?_ _;· (first | (simp;done) | (simp;omega) | omega))))))
 ·(exact ⟨rfl,outV_pan (by simp_all [oneS]) (by repeat (first | (with_reducible exact Below.refl _ _) | (with_reducible refine below_al ?_ _) | (with_reducible refine below_drewN ?_ _) | (with_reducible refine Below.drew ?_) | (with_reducible refine below_via (by assumption) ?_) | (with_reducible refine below_sc ?_ ?_ _;· (first | (simp;done) | (simp;omega) | omega))))⟩)
 ·(exact ⟨rfl,outV_pan (by simp_all [oneS]) (by repeat (first | (with_reducible exact Below.refl _ _) | (with_reducible refine below_al ?_ _) | (with_reducible refine below_drewN ?_ _) | (with_reducible refine Below.drew ?_) | (with_reducible refine below_via (by assumption) ?_) | (with_reducible refine below_sc ?_ ?_ _;· (first | (simp;done) | (simp;omega) | omega))))⟩)
 ·(exact ⟨rfl,outV_pan (by simp_all [oneS]) (by repeat (first | (with_reducible exact Below.refl _ _) | (with_reducible refine below_al ?_ _) | (with_reducible refine below_drewN ?_ _) | (with_reducible refine Below.drew ?_) | (with_reducible refine below_via (by assumption) ?_) | (with_reducible refine below_sc ?_ ?_ _;· (first | (simp;done) | (simp;omega) | omega))))⟩)
 ·(exact ⟨rfl,outV_pan (by simp_all [oneS]) (by repeat (first | (with_reducible exact Below.refl _ _) | (with_reducible refine below_al ?_ _) | (with_reducible refine below_drewN ?_ _) | (with_reducible refine Below.drew ?_) | (with_reducible refine below_via (by assumption) ?_) | (with_reducible refine below_sc ?_ ?_ _;· (first | (simp;done) | (simp;omega) | omega))))⟩)
 ·(exact ⟨rfl,outV_pan (by simp_all [oneS]) (by repeat (first | (with_reducible exact Below.refl _ _) | (with_reducible refine below_al ?_ _) | (with_reducible refine below_drewN ?_ _) | (with_reducible refine Below.drew ?_) | (with_reducible refine below_via (by assumption) ?_) | (with_reducible refine below_sc ?_ ?_ _;· (first | (simp;done) | (simp;omega) | omega))))⟩)
end Go.Proofs.YtakcjiinchghaaaGreatDoor
end
section
namespace Go.Proofs.YtakcjiinchghaaaGreatDoor
set_option linter.unusedVariables false
set_option linter.unusedSimpArgs false
open Go.RowKit
def cmpV (k n f : Int) (t : ByteArray) (k' n' f' : Int) (t' : ByteArray) : Int :=
 if !soundV k n f t || !soundV k' n' f' t' then 0
 else if k != k' then Lib.compareInt k k'
 else if k == 3 then cmpF f.toNat f'.toNat
 else if k == 4 then Lib.compareBytes t.data.toList t'.data.toList
 else Lib.compareInt n n'
theorem cmpInt_q (x y : Int) (w : World) : Calls Tryz.prog 140 #[.int .i64 x,.int .i64 y] w fun e w'=>e = .returned (.int .i64 (Lib.compareInt x y)) ∧ w = w' :=
 (Tryz.cmp_Compare_int x y w).mono fun _ _ ⟨h1,h2⟩=>⟨h1,h2.symm⟩
theorem cmpStr_q (x y : ByteArray) (w : World) : Calls Tryz.prog 142 #[.string x,.string y] w fun e w'=>e = .returned (.int .i64 (Lib.compareBytes x.data.toList y.data.toList)) ∧ w = w' :=
 (Tryz.strings_Compare x y w).mono fun _ _ ⟨h1,h2⟩=>⟨h1,h2.symm⟩
set_option maxRecDepth 100000 in
set_option maxHeartbeats 2000000 in
theorem compare_f (n f : Int) (t : ByteArray) (n' f' : Int) (t' : ByteArray) (w : World) (hn : I64 n) (hn' : I64 n') (h1 : soundV 3 n f t = true) (h2 : soundV 3 n' f' t' = true) : Calls Tryz.prog 104 #[.agg #[.int .i64 3,.int .i64 n,.int .u64 f,.string t],.agg #[.int .i64 3,.int .i64 n',.int .u64 f',.string t']] w fun e w'=>e = .returned (.int .i64 (cmpF f.toNat f'.toNat)) ∧ Below w.heap.size w w':=by
 go_enter Tryz.func104,Tryz.ntmps104
 go_wp2_with (first | (go_at_call_of 28 (Value.agg #[.int .i64 3,.int .i64 n,.int .u64 f,.string t]);refine (sound_c 3 n f t _ hn).mono ?_;rintro e w' ⟨rfl,hb⟩;obtain ⟨hc,hf⟩:=bcell hb;(try (have hz0 : w.heap.size < w'.heap.size:=(by have:=hb.size;(try simp at this);omega)));(try (have hz1 : w.heap.size + 1 < w'.heap.size:=(by have:=hb.size;(try simp at this);omega)));(try (have hz2 : w.heap.size + 2 < w'.heap.size:=(by have:=hb.size;(try simp at this);omega)));(try (have hz3 : w.heap.size + 3 < w'.heap.size:=(by have:=hb.size;(try simp at this);omega)))) | (go_at_call 28;refine (sound_c 3 n' f' t' _ hn').mono ?_;rintro e w' ⟨rfl,hb⟩;obtain ⟨hc,hf⟩:=bcell hb;(try (have hz0 : w.heap.size < w'.heap.size:=(by have:=hb.size;(try simp at this);omega)));(try (have hz1 : w.heap.size + 1 < w'.heap.size:=(by have:=hb.size;(try simp at this);omega)));(try (have hz2 : w.heap.size + 2 < w'.heap.size:=(by have:=hb.size;(try simp at this);omega)));(try (have hz3 : w.heap.size + 3 < w'.heap.size:=(by have:=hb.size;(try simp at this);omega)))))
 go_region_with (first | (go_at_call 108;refine (float_c _ _ _ _ _).mono ?_;rintro e w' ⟨rfl,hb⟩;(try (replace hb:=below_undrew hb));(try (replace hb:=below_undrewN hb));obtain ⟨hc,hf⟩:=bcell hb;(try (have hz0 : w.heap.size < w'.heap.size:=(by have:=hb.size;(try simp at this);omega)));(try (have hz1 : w.heap.size + 1 < w'.heap.size:=(by have:=hb.size;(try simp at this);omega)));(try (have hz2 : w.heap.size + 2 < w'.heap.size:=(by have:=hb.size;(try simp at this);omega)));(try (have hz3 : w.heap.size + 3 < w'.heap.size:=(by have:=hb.size;(try simp at this);omega)))) | (go_at_call 141;refine (compareFloats_c _ _ _).mono ?_;rintro e w' ⟨rfl,rfl⟩))
 all_goals (go_wp2_with fail;go_ret;exact ⟨rfl,(by repeat (first | (with_reducible exact Below.refl _ _) | (with_reducible refine below_al ?_ _) | (with_reducible refine below_drewN ?_ _) | (with_reducible refine Below.drew ?_) | (with_reducible refine below_via (by assumption) ?_) | (with_reducible refine below_sc ?_ ?_ _;· (first | (simp;done) | (simp;omega) | omega))))⟩)
set_option maxRecDepth 100000 in
set_option maxHeartbeats 2000000 in
theorem compare_c (k n f : Int) (t : ByteArray) (k' n' f' : Int) (t' : ByteArray) (w : World) (hn : I64 n) (hn' : I64 n') : Calls Tryz.prog 104 #[.agg #[.int .i64 k,.int .i64 n,.int .u64 f,.string t],.agg #[.int .i64 k',.int .i64 n',.int .u64 f',.string t']] w fun e w'=>e = .returned (.int .i64 (cmpV k n f t k' n' f' t')) ∧ Below w.heap.size w w':=by
 have any : ∀ r : Int,cmpV k n f t k' n' f' t' = r → (∀ (e : Ending) (w' : World),(e = .returned (.int .i64 r) ∧ Below w.heap.size w w') → (e = .returned (.int .i64 (cmpV k n f t k' n' f' t')) ∧ Below w.heap.size w w')):=fun r h e w' ⟨a,b⟩=>⟨by rw [h];exact a,b⟩
 cases h1 : soundV k n f t with
 | false =>
  refine Calls.mono ?_ (any 0 (by simp [cmpV,h1]))
  clear any
  go_enter Tryz.func104,Tryz.ntmps104
  go_wp2_with (first | (go_at_call_of 28 (Value.agg #[.int .i64 k,.int .i64 n,.int .u64 f,.string t]);refine (sound_c k n f t _ hn).mono ?_;rintro e w' ⟨rfl,hb⟩;obtain ⟨hc,hf⟩:=bcell hb;(try (have hz0 : w.heap.size < w'.heap.size:=(by have:=hb.size;(try simp at this);omega)));(try (have hz1 : w.heap.size + 1 < w'.heap.size:=(by have:=hb.size;(try simp at this);omega)));(try (have hz2 : w.heap.size + 2 < w'.heap.size:=(by have:=hb.size;(try simp at this);omega)));(try (have hz3 : w.heap.size + 3 < w'.heap.size:=(by have:=hb.size;(try simp at this);omega)))) | (go_at_call 28;refine (sound_c k' n' f' t' _ hn').mono ?_;rintro e w' ⟨rfl,hb⟩;obtain ⟨hc,hf⟩:=bcell hb;(try (have hz0 : w.heap.size < w'.heap.size:=(by have:=hb.size;(try simp at this);omega)));(try (have hz1 : w.heap.size + 1 < w'.heap.size:=(by have:=hb.size;(try simp at this);omega)));(try (have hz2 : w.heap.size + 2 < w'.heap.size:=(by have:=hb.size;(try simp at this);omega)));(try (have hz3 : w.heap.size + 3 < w'.heap.size:=(by have:=hb.size;(try simp at this);omega)))) | (go_at_call 140;refine (cmpInt_q _ _ _).mono ?_;rintro e w' ⟨rfl,rfl⟩) | (go_at_call 142;refine (cmpStr_q _ _ _).mono ?_;rintro e w' ⟨rfl,rfl⟩))
  all_goals (go_ret;exact ⟨rfl,(by repeat (first | (with_reducible exact Below.refl _ _) | (with_reducible refine below_al ?_ _) | (with_reducible refine below_drewN ?_ _) | (with_reducible refine Below.drew ?_) | (with_reducible refine below_via (by assumption) ?_) | (with_reducible refine below_sc ?_ ?_ _;· (first | (simp;done) | (simp;omega) | omega))))⟩)
 | true =>
  cases h2 : soundV k' n' f' t' with
  | false =>
   refine Calls.mono ?_ (any 0 (by simp [cmpV,h2]))
   clear any
   go_enter Tryz.func104,Tryz.ntmps104
   go_wp2_with (first | (go_at_call_of 28 (Value.agg #[.int .i64 k,.int .i64 n,.int .u64 f,.string t]);refine (sound_c k n f t _ hn).mono ?_;rintro e w' ⟨rfl,hb⟩;obtain ⟨hc,hf⟩:=bcell hb;(try (have hz0 : w.heap.size < w'.heap.size:=(by have:=hb.size;(try simp at this);omega)));(try (have hz1 : w.heap.size + 1 < w'.heap.size:=(by have:=hb.size;(try simp at this);omega)));(try (have hz2 : w.heap.size + 2 < w'.heap.size:=(by have:=hb.size;(try simp at this);omega)));(try (have hz3 : w.heap.size + 3 < w'.heap.size:=(by have:=hb.size;(try simp at this);omega)))) | (go_at_call 28;refine (sound_c k' n' f' t' _ hn').mono ?_;rintro e w' ⟨rfl,hb⟩;obtain ⟨hc,hf⟩:=bcell hb;(try (have hz0 : w.heap.size < w'.heap.size:=(by have:=hb.size;(try simp at this);omega)));(try (have hz1 : w.heap.size + 1 < w'.heap.size:=(by have:=hb.size;(try simp at this);omega)));(try (have hz2 : w.heap.size + 2 < w'.heap.size:=(by have:=hb.size;(try simp at this);omega)));(try (have hz3 : w.heap.size + 3 < w'.heap.size:=(by have:=hb.size;(try simp at this);omega)))) | (go_at_call 140;refine (cmpInt_q _ _ _).mono ?_;rintro e w' ⟨rfl,rfl⟩) | (go_at_call 142;refine (cmpStr_q _ _ _).mono ?_;rintro e w' ⟨rfl,rfl⟩))
   all_goals (go_ret;exact ⟨rfl,(by repeat (first | (with_reducible exact Below.refl _ _) | (with_reducible refine below_al ?_ _) | (with_reducible refine below_drewN ?_ _) | (with_reducible refine Below.drew ?_) | (with_reducible refine below_via (by assumption) ?_) | (with_reducible refine below_sc ?_ ?_ _;· (first | (simp;done) | (simp;omega) | omega))))⟩)
  | true =>
   by_cases h3 : k = k'
   ·subst h3
    by_cases h4 : k = 3
    ·subst h4
     exact (compare_f n f t n' f' t' w hn hn' h1 h2).mono (any _ (by simp [cmpV,h1,h2]))
    ·by_cases h5 : k = 4
     ·subst h5
      refine Calls.mono ?_ (any (Lib.compareBytes t.data.toList t'.data.toList) (by simp [cmpV,h1,h2]))
      clear any
      go_enter Tryz.func104,Tryz.ntmps104
      go_wp2_with (first | (go_at_call_of 28 (Value.agg #[.int .i64 4,.int .i64 n,.int .u64 f,.string t]);refine (sound_c 4 n f t _ hn).mono ?_;rintro e w' ⟨rfl,hb⟩;obtain ⟨hc,hf⟩:=bcell hb;(try (have hz0 : w.heap.size < w'.heap.size:=(by have:=hb.size;(try simp at this);omega)));(try (have hz1 : w.heap.size + 1 < w'.heap.size:=(by have:=hb.size;(try simp at this);omega)));(try (have hz2 : w.heap.size + 2 < w'.heap.size:=(by have:=hb.size;(try simp at this);omega)));(try (have hz3 : w.heap.size + 3 < w'.heap.size:=(by have:=hb.size;(try simp at this);omega)))) | (go_at_call 28;refine (sound_c 4 n' f' t' _ hn').mono ?_;rintro e w' ⟨rfl,hb⟩;obtain ⟨hc,hf⟩:=bcell hb;(try (have hz0 : w.heap.size < w'.heap.size:=(by have:=hb.size;(try simp at this);omega)));(try (have hz1 : w.heap.size + 1 < w'.heap.size:=(by have:=hb.size;(try simp at this);omega)));(try (have hz2 : w.heap.size + 2 < w'.heap.size:=(by have:=hb.size;(try simp at this);omega)));(try (have hz3 : w.heap.size + 3 < w'.heap.size:=(by have:=hb.size;(try simp at this);omega)))) | (go_at_call 140;refine (cmpInt_q _ _ _).mono ?_;rintro e w' ⟨rfl,rfl⟩) | (go_at_call 142;refine (cmpStr_q _ _ _).mono ?_;rintro e w' ⟨rfl,rfl⟩))
      all_goals (go_ret;exact ⟨rfl,(by repeat (first | (with_reducible exact Below.refl _ _) | (with_reducible refine below_al ?_ _) | (with_reducible refine below_drewN ?_ _) | (with_reducible refine Below.drew ?_) | (with_reducible refine below_via (by assumption) ?_) | (with_reducible refine below_sc ?_ ?_ _;· (first | (simp;done) | (simp;omega) | omega))))⟩)
     ·refine Calls.mono ?_ (any (Lib.compareInt n n') (by simp [cmpV,h1,h2,h4,h5]))
      clear any
      go_enter Tryz.func104,Tryz.ntmps104
      go_wp2_with (first | (go_at_call_of 28 (Value.agg #[.int .i64 k,.int .i64 n,.int .u64 f,.string t]);refine (sound_c k n f t _ hn).mono ?_;rintro e w' ⟨rfl,hb⟩;obtain ⟨hc,hf⟩:=bcell hb;(try (have hz0 : w.heap.size < w'.heap.size:=(by have:=hb.size;(try simp at this);omega)));(try (have hz1 : w.heap.size + 1 < w'.heap.size:=(by have:=hb.size;(try simp at this);omega)));(try (have hz2 : w.heap.size + 2 < w'.heap.size:=(by have:=hb.size;(try simp at this);omega)));(try (have hz3 : w.heap.size + 3 < w'.heap.size:=(by have:=hb.size;(try simp at this);omega)))) | (go_at_call 28;refine (sound_c k n' f' t' _ hn').mono ?_;rintro e w' ⟨rfl,hb⟩;obtain ⟨hc,hf⟩:=bcell hb;(try (have hz0 : w.heap.size < w'.heap.size:=(by have:=hb.size;(try simp at this);omega)));(try (have hz1 : w.heap.size + 1 < w'.heap.size:=(by have:=hb.size;(try simp at this);omega)));(try (have hz2 : w.heap.size + 2 < w'.heap.size:=(by have:=hb.size;(try simp at this);omega)));(try (have hz3 : w.heap.size + 3 < w'.heap.size:=(by have:=hb.size;(try simp at this);omega)))) | (go_at_call 140;refine (cmpInt_q _ _ _).mono ?_;rintro e w' ⟨rfl,rfl⟩) | (go_at_call 142;refine (cmpStr_q _ _ _).mono ?_;rintro e w' ⟨rfl,rfl⟩))
      all_goals (go_ret;exact ⟨rfl,(by repeat (first | (with_reducible exact Below.refl _ _) | (with_reducible refine below_al ?_ _) | (with_reducible refine below_drewN ?_ _) | (with_reducible refine Below.drew ?_) | (with_reducible refine below_via (by assumption) ?_) | (with_reducible refine below_sc ?_ ?_ _;· (first | (simp;done) | (simp;omega) | omega))))⟩)
   ·refine Calls.mono ?_ (any (Lib.compareInt k k') (by simp [cmpV,h1,h2,h3]))
    clear any
    go_enter Tryz.func104,Tryz.ntmps104
    go_wp2_with (first | (go_at_call_of 28 (Value.agg #[.int .i64 k,.int .i64 n,.int .u64 f,.string t]);refine (sound_c k n f t _ hn).mono ?_;rintro e w' ⟨rfl,hb⟩;obtain ⟨hc,hf⟩:=bcell hb;(try (have hz0 : w.heap.size < w'.heap.size:=(by have:=hb.size;(try simp at this);omega)));(try (have hz1 : w.heap.size + 1 < w'.heap.size:=(by have:=hb.size;(try simp at this);omega)));(try (have hz2 : w.heap.size + 2 < w'.heap.size:=(by have:=hb.size;(try simp at this);omega)));(try (have hz3 : w.heap.size + 3 < w'.heap.size:=(by have:=hb.size;(try simp at this);omega)))) | (go_at_call 28;refine (sound_c k' n' f' t' _ hn').mono ?_;rintro e w' ⟨rfl,hb⟩;obtain ⟨hc,hf⟩:=bcell hb;(try (have hz0 : w.heap.size < w'.heap.size:=(by have:=hb.size;(try simp at this);omega)));(try (have hz1 : w.heap.size + 1 < w'.heap.size:=(by have:=hb.size;(try simp at this);omega)));(try (have hz2 : w.heap.size + 2 < w'.heap.size:=(by have:=hb.size;(try simp at this);omega)));(try (have hz3 : w.heap.size + 3 < w'.heap.size:=(by have:=hb.size;(try simp at this);omega)))) | (go_at_call 140;refine (cmpInt_q _ _ _).mono ?_;rintro e w' ⟨rfl,rfl⟩) | (go_at_call 142;refine (cmpStr_q _ _ _).mono ?_;rintro e w' ⟨rfl,rfl⟩))
    all_goals (go_ret;exact ⟨rfl,(by repeat (first | (with_reducible exact Below.refl _ _) | (with_reducible refine below_al ?_ _) | (with_reducible refine below_drewN ?_ _) | (with_reducible refine Below.drew ?_) | (with_reducible refine below_via (by assumption) ?_) | (with_reducible refine below_sc ?_ ?_ _;· (first | (simp;done) | (simp;omega) | omega))))⟩)
end Go.Proofs.YtakcjiinchghaaaGreatDoor
end
