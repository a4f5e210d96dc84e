/- a part of the claim: what the card leans on, out of the texts Shelf, V1, V2, V9, VF, VQ, ZP1, ZP2, ZP4, V3, V4, V6, VP1, VP3, VR1, VR2, VS (put together by wip/tools/shake.py). -/
import Derived.Shelf.Strings.Builder1
import Derived.Shelf.Strings.Builder2
import Derived.Shelf.Strings.OnBuilder
import Derived.Shelf.Small.Strs
import Derived.Shelf.Small.Wraps
import Derived.Shelf.Strings.BuilderF
import Derived.Shelf.Strings.BuilderK
import Derived.Shelf.Utf8.RuneCount
import Derived.Shelf.Strings.Builder2Cap
import Derived.Shelf.Strconv.Itoa0
import Derived.Shelf.Strconv.Itoa1
import Derived.Shelf.LaysM
import Derived.Shelf.Strconv.Itoa2
import Derived.Shelf.Strconv.Itoa3
import Derived.Shelf.Strings.Search1
import Derived.Shelf.Strings.Search2
import Derived.Shelf.Strings.Search3
import Derived.Shelf.Strings.Count
import Derived.Shelf.Strings.Shaped
import Derived.Shelf.Strings.Prefix
import Derived.Shelf.Strings.Split
import Derived.Shelf.Strings.Replace
import Derived.Shelf.Strings.SplitShaped
import Derived.Shelf.Strings.RuneCount
import Derived.Shelf.Bits.Mul64
import Derived.Shelf.Strings.Repeat
import Derived.Shelf.Unicode.DecodeSlow
import Derived.Shelf.Strings.BuilderCap
import Derived.Test.YthpkjkcfhipjhaaGreatDoorProg
import Derived.Test.YthpkjkcfhipjhaaGreatDoorRows
import Derived.WalkKit
import Derived.WalkSpells
import Derived.WalkLawsBesides
import Derived.Deep.QuietTactic
import Derived.BigQuiet
import Derived.Laws.Externs
import Derived.Lib.Builder
import Derived.Lib.AppendStr
import Derived.Lib.UnsafeStr
import Derived.RegionTactic
import Derived.StillTailTactics
import Derived.Deep.RegionWith
import Derived.RowKit
import Derived.Lib.AppendIntMem
import Derived.Lib.ItoaLen
import Derived.Lib.VarintBits
import Derived.Lib.Zigzag
import Derived.Recover
import Derived.Deep.RegionHeld3
import Derived.BigRegion
section
namespace Go.Proofs
open Go.Shelf
def Tryz.lays169_ren : Go.Shelf.Ren:=⟨fun | 169=>63 | n=>n,fun | 70=>77 | 9=>9 | 0=>0 | 72=>80 | 37=>78 | 127=>114 | 3=>3 | 5=>5 | n=>n,fun | n=>n⟩
theorem Tryz.lays169 : Go.Proofs.Lays.n169 Tryz.prog Tryz.lays169_ren:={
 mixed:=by kernel_rfl
 f169:=Tryz.func63.trans (congrArg some (by kernel_rfl))
 t0:=Tryz.underlying0
 a0:=Tryz.isAgg0
 z0:=Tryz.sizeOf0
 v0:=Tryz.zeroValue0
 t3:=Tryz.underlying3
 a3:=Tryz.isAgg3
 z3:=Tryz.sizeOf3
 v3:=Tryz.zeroValue3
 t9:=Tryz.underlying9
 a9:=Tryz.isAgg9
 z9:=Tryz.sizeOf9
 v9:=Tryz.zeroValue9
 t37:=Tryz.underlying78
 a37:=Tryz.isAgg78
 z37:=Tryz.sizeOf78
 v37:=Tryz.zeroValue78
 t70:=Tryz.underlying77
 a70:=Tryz.isAgg77
 z70:=Tryz.sizeOf77
 v70:=Tryz.zeroValue77
 t72:=Tryz.underlying80
 a72:=Tryz.isAgg80
 z72:=Tryz.sizeOf80
 v72:=Tryz.zeroValue80
 t127:=Tryz.underlying114
 a127:=Tryz.isAgg114
 z127:=Tryz.sizeOf114
 v127:=Tryz.zeroValue114 }
theorem Tryz.Builder_Extra_169 : Builder.Extra Tryz.prog Tryz.lays169_ren:={
 sizeBuilder:=by kernel_rfl
 liesBuilder:=by kernel_rfl
 t5:=Tryz.underlying5
 a5:=Tryz.isAgg5
 z5:=Tryz.sizeOf5
 v5:=Tryz.zeroValue5
 infoByte:=by kernel_rfl
 cellsByte:=by kernel_rfl
 sizeByte:=by kernel_rfl
 neB5:=by decide }
open Go.RowKit in
/-- (*strings.Builder).String: "String returns the accumulated string.": WHATEVER THE BUILDER HOLDS. (LAID: no walk: one application.) -/
theorem Tryz.Builder_String_any (B b : Nat) (l : List UInt8) (w : World) (h : Lib.IsBuilder 80 5 B b (Lib.byteCells l) w) (hBw : B ≤ w.heap.size) :
  Calls Tryz.prog 63 #[.pointer (some ⟨b,0,none⟩)] w fun e w'=>e = .returned (.string ⟨l.toArray⟩) ∧ Below B w w':=Any.Builder_String_any Tryz.lays169 Tryz.Builder_Extra_169 B b l w h hBw
def Tryz.lays156_ren : Go.Shelf.Ren:=⟨fun | 156=>51 | 165=>77 | 166=>61 | 169=>63 | 240=>84 | 241=>103 | 276=>108 | 277=>127 | n=>n,fun | 31=>69 | 9=>9 | 3=>3 | 4=>4 | 0=>0 | 20=>20 | 72=>80 | 76=>84 | 70=>77 | 37=>78 | 75=>82 | 127=>114 | 164=>129 | 5=>5 | 80=>90 | n=>n,fun | n=>n⟩
theorem Tryz.lays156 : Go.Proofs.Lays.n156 Tryz.prog Tryz.lays156_ren:={
 mixed:=by kernel_rfl
 f156:=Tryz.func51.trans (congrArg some (by kernel_rfl))
 f165:=Tryz.func77.trans (congrArg some (by kernel_rfl))
 f166:=Tryz.func61.trans (congrArg some (by kernel_rfl))
 f169:=Tryz.func63.trans (congrArg some (by kernel_rfl))
 f240:=Tryz.func84.trans (congrArg some (by kernel_rfl))
 f241:=Tryz.func103.trans (congrArg some (by kernel_rfl))
 f276:=Tryz.func108.trans (congrArg some (by kernel_rfl))
 f277:=Tryz.func127.trans (congrArg some (by kernel_rfl))
 t0:=Tryz.underlying0
 a0:=Tryz.isAgg0
 z0:=Tryz.sizeOf0
 v0:=Tryz.zeroValue0
 t3:=Tryz.underlying3
 a3:=Tryz.isAgg3
 z3:=Tryz.sizeOf3
 v3:=Tryz.zeroValue3
 t4:=Tryz.underlying4
 a4:=Tryz.isAgg4
 z4:=Tryz.sizeOf4
 v4:=Tryz.zeroValue4
 t9:=Tryz.underlying9
 a9:=Tryz.isAgg9
 z9:=Tryz.sizeOf9
 v9:=Tryz.zeroValue9
 t20:=Tryz.underlying20
 a20:=Tryz.isAgg20
 z20:=Tryz.sizeOf20
 v20:=Tryz.zeroValue20
 t31:=Tryz.underlying69
 a31:=Tryz.isAgg69
 z31:=Tryz.sizeOf69
 v31:=Tryz.zeroValue69
 t37:=Tryz.underlying78
 a37:=Tryz.isAgg78
 z37:=Tryz.sizeOf78
 v37:=Tryz.zeroValue78
 t70:=Tryz.underlying77
 a70:=Tryz.isAgg77
 z70:=Tryz.sizeOf77
 v70:=Tryz.zeroValue77
 t72:=Tryz.underlying80
 a72:=Tryz.isAgg80
 z72:=Tryz.sizeOf80
 v72:=Tryz.zeroValue80
 t75:=Tryz.underlying82
 a75:=Tryz.isAgg82
 z75:=Tryz.sizeOf82
 v75:=Tryz.zeroValue82
 t76:=Tryz.underlying84
 a76:=Tryz.isAgg84
 z76:=Tryz.sizeOf84
 v76:=Tryz.zeroValue84
 t127:=Tryz.underlying114
 a127:=Tryz.isAgg114
 z127:=Tryz.sizeOf114
 v127:=Tryz.zeroValue114
 t164:=Tryz.underlying129
 a164:=Tryz.isAgg129
 z164:=Tryz.sizeOf129
 v164:=Tryz.zeroValue129 }
theorem Tryz.Builder_Extra_156 : Builder.Extra Tryz.prog Tryz.lays156_ren:={
 sizeBuilder:=by kernel_rfl
 liesBuilder:=by kernel_rfl
 t5:=Tryz.underlying5
 a5:=Tryz.isAgg5
 z5:=Tryz.sizeOf5
 v5:=Tryz.zeroValue5
 infoByte:=by kernel_rfl
 cellsByte:=by kernel_rfl
 sizeByte:=by kernel_rfl
 neB5:=by decide }
open Go.RowKit in
/-- No element: the empty string; the world is as it was. (Whatever the slice's address and capacity: a nil slice too.) (LAID: no walk: one application.) -/
theorem Tryz.strings_Join_none (a : Option Addr) (c : Nat) (sep : ByteArray) (w : World) :
  Calls Tryz.prog 51 #[.slice a 0 c,.string sep] w fun e w'=>e = .returned (.string ⟨#[]⟩) ∧ w' = w:=Any.strings_Join_none Tryz.lays156 Tryz.Builder_Extra_156 a c sep w
open Go.RowKit in
/-- strings.Join: "Join concatenates the elements of its first argument to create a single string. The separator string sep is placed between elements in the resulting string.": HOWEVER MANY ELEMENTS. Below the heap's end the world is as it was. (LAID: no walk: one application.) -/
theorem Tryz.strings_Join (bk o c : Nat) (xs : List ByteArray) (sep : ByteArray) (w : World) (hcells : ∀ (j : Nat) x,xs[j]? = some x → w.cell? ⟨bk,o + j,none⟩ = some (.string x)) (hbk : bk < w.heap.size) (hN : xs.length ≤ 140737488355328) (hcap : xs.length ≤ c) (hlen : (Lib.join (xs.map (·.data.toList)) sep.data.toList).length ≤ 140737488355328) :
  Calls Tryz.prog 51 #[.slice (some ⟨bk,o,none⟩) xs.length c,.string sep] w fun e w'=>e = .returned (.string ⟨(Lib.join (xs.map (·.data.toList)) sep.data.toList).toArray⟩) ∧ Below w.heap.size w w':=Any.strings_Join Tryz.lays156 Tryz.Builder_Extra_156 bk o c xs sep w hcells hbk hN hcap hlen
def Tryz.lays106_ren : Go.Shelf.Ren:=⟨fun | 106=>93 | 213=>116 | 265=>133 | n=>n,fun | 9=>9 | 3=>3 | n=>n,fun | n=>n⟩
theorem Tryz.lays106 : Go.Proofs.Lays.n106 Tryz.prog Tryz.lays106_ren:={
 mixed:=by kernel_rfl
 f106:=Tryz.func93.trans (congrArg some (by kernel_rfl))
 f213:=Tryz.func116.trans (congrArg some (by kernel_rfl))
 f265:=Tryz.func133.trans (congrArg some (by kernel_rfl))
 t3:=Tryz.underlying3
 a3:=Tryz.isAgg3
 z3:=Tryz.sizeOf3
 v3:=Tryz.zeroValue3
 t9:=Tryz.underlying9
 a9:=Tryz.isAgg9
 z9:=Tryz.sizeOf9
 v9:=Tryz.zeroValue9 }
open Go.RowKit in
/-- strings.Compare: "Compare returns an integer comparing two strings lexicographically. The result will be 0 if a == b, -1 if a < b, and +1 if a > b.": IT RETURNS 'Lib.compareBytes a b'; the world is as it was. (LAID: no walk: one application.) -/
theorem Tryz.strings_Compare (a b : ByteArray) (w : World) :
  Calls Tryz.prog 93 #[.string a,.string b] w fun e w'=>e = .returned (.int .i64 (Lib.compareBytes a.data.toList b.data.toList)) ∧ w' = w:=Any.strings_Compare Tryz.lays106 a b w
def Tryz.lays121_ren : Go.Shelf.Ren:=⟨fun | 121=>96 | 214=>117 | n=>n,fun | 4=>4 | 9=>9 | n=>n,fun | n=>n⟩
theorem Tryz.lays121 : Go.Proofs.Lays.n121 Tryz.prog Tryz.lays121_ren:={
 mixed:=by kernel_rfl
 f121:=Tryz.func96.trans (congrArg some (by kernel_rfl))
 f214:=Tryz.func117.trans (congrArg some (by kernel_rfl))
 t4:=Tryz.underlying4
 a4:=Tryz.isAgg4
 z4:=Tryz.sizeOf4
 v4:=Tryz.zeroValue4
 t9:=Tryz.underlying9
 a9:=Tryz.isAgg9
 z9:=Tryz.sizeOf9
 v9:=Tryz.zeroValue9 }
open Go.RowKit in
/-- strconv.FormatBool: "FormatBool returns "true" or "false" according to the value of b.": IT RETURNS 'Lib.formatBool b'; the world is as it was. (LAID: no walk: one application.) -/
theorem Tryz.strconv_FormatBool (b : Bool) (w : World) :
  Calls Tryz.prog 96 #[.bool b] w fun e w'=>e = .returned (.string ⟨(Lib.formatBool b).toArray⟩) ∧ w' = w:=Any.strconv_FormatBool Tryz.lays121 b w
def Tryz.lays122_ren : Go.Shelf.Ren:=⟨fun | 122=>90 | 215=>114 | n=>n,fun | 3=>3 | 4=>4 | n=>n,fun | n=>n⟩
theorem Tryz.lays122 : Go.Proofs.Lays.n122 Tryz.prog Tryz.lays122_ren:={
 mixed:=by kernel_rfl
 f122:=Tryz.func90.trans (congrArg some (by kernel_rfl))
 f215:=Tryz.func114.trans (congrArg some (by kernel_rfl))
 t3:=Tryz.underlying3
 a3:=Tryz.isAgg3
 z3:=Tryz.sizeOf3
 v3:=Tryz.zeroValue3
 t4:=Tryz.underlying4
 a4:=Tryz.isAgg4
 z4:=Tryz.sizeOf4
 v4:=Tryz.zeroValue4 }
open Go.RowKit in
/-- cmp.Compare at int: "Compare returns -1 if x is less than y, 0 if x equals y, +1 if x is greater than y.": IT RETURNS 'Lib.compareInt x y'; the world is as it was. (LAID: no walk: one application.) -/
theorem Tryz.cmp_Compare_int (x y : Int) (w : World) :
  Calls Tryz.prog 90 #[.int .i64 x,.int .i64 y] w fun e w'=>e = .returned (.int .i64 (Lib.compareInt x y)) ∧ w' = w:=Any.cmp_Compare_int Tryz.lays122 x y w
def Tryz.laysM171_ren : Go.Shelf.Ren:=⟨fun | 171=>50 | 243=>76 | 246=>102 | 283=>123 | 284=>124 | 285=>125 | 286=>126 | 129=>139 | 317=>138 | 318=>140 | 319=>141 | 320=>142 | 337=>147 | 338=>148 | n=>n,fun | 3=>3 | 9=>9 | 2=>2 | 4=>4 | 171=>139 | 0=>0 | 53=>56 | 37=>78 | 5=>5 | 173=>142 | 212=>154 | 51=>148 | 20=>20 | 213=>155 | 46=>100 | 232=>163 | 233=>164 | n=>n,fun | 17=>2 | 18=>5 | 19=>6 | n=>n⟩
theorem Tryz.laysM171 : Go.Proofs.LaysM.n171 Tryz.prog Tryz.laysM171_ren:={
 mixed:=by kernel_rfl
 f129:=Tryz.func139.trans (congrArg some (by kernel_rfl))
 f171:=Tryz.func50.trans (congrArg some (by kernel_rfl))
 f243:=Tryz.func76.trans (congrArg some (by kernel_rfl))
 f246:=Tryz.func102.trans (congrArg some (by kernel_rfl))
 f283:=Tryz.func123.trans (congrArg some (by kernel_rfl))
 f284:=Tryz.func124.trans (congrArg some (by kernel_rfl))
 f285:=Tryz.func125.trans (congrArg some (by kernel_rfl))
 f286:=Tryz.func126.trans (congrArg some (by kernel_rfl))
 f317:=Tryz.func138.trans (congrArg some (by kernel_rfl))
 f318:=Tryz.func140.trans (congrArg some (by kernel_rfl))
 f319:=Tryz.func141.trans (congrArg some (by kernel_rfl))
 f320:=Tryz.func142.trans (congrArg some (by kernel_rfl))
 f337:=Tryz.func147.trans (congrArg some (by kernel_rfl))
 f338:=Tryz.func148.trans (congrArg some (by kernel_rfl))
 t0:=Tryz.underlying0
 a0:=Tryz.isAgg0
 z0:=Tryz.sizeOf0
 v0:=Tryz.zeroValue0
 t2:=Tryz.underlying2
 a2:=Tryz.isAgg2
 z2:=Tryz.sizeOf2
 v2:=Tryz.zeroValue2
 t3:=Tryz.underlying3
 a3:=Tryz.isAgg3
 z3:=Tryz.sizeOf3
 v3:=Tryz.zeroValue3
 t4:=Tryz.underlying4
 a4:=Tryz.isAgg4
 z4:=Tryz.sizeOf4
 v4:=Tryz.zeroValue4
 t5:=Tryz.underlying5
 a5:=Tryz.isAgg5
 z5:=Tryz.sizeOf5
 v5:=Tryz.zeroValue5
 t9:=Tryz.underlying9
 a9:=Tryz.isAgg9
 z9:=Tryz.sizeOf9
 v9:=Tryz.zeroValue9
 t20:=Tryz.underlying20
 a20:=Tryz.isAgg20
 z20:=Tryz.sizeOf20
 v20:=Tryz.zeroValue20
 t37:=Tryz.underlying78
 a37:=Tryz.isAgg78
 z37:=Tryz.sizeOf78
 v37:=Tryz.zeroValue78
 t46:=Tryz.underlying100
 a46:=Tryz.isAgg100
 z46:=Tryz.sizeOf100
 v46:=Tryz.zeroValue100
 t51:=Tryz.underlying148
 a51:=Tryz.isAgg148
 z51:=Tryz.sizeOf148
 v51:=Tryz.zeroValue148
 t53:=Tryz.underlying56
 a53:=Tryz.isAgg56
 z53:=Tryz.sizeOf56
 v53:=Tryz.zeroValue56
 t171:=Tryz.underlying139
 a171:=Tryz.isAgg139
 z171:=Tryz.sizeOf139
 v171:=Tryz.zeroValue139
 t173:=Tryz.underlying142
 a173:=Tryz.isAgg142
 z173:=Tryz.sizeOf142
 v173:=Tryz.zeroValue142
 t212:=Tryz.underlying154
 a212:=Tryz.isAgg154
 z212:=Tryz.sizeOf154
 v212:=Tryz.zeroValue154
 t213:=Tryz.underlying155
 a213:=Tryz.isAgg155
 z213:=Tryz.sizeOf155
 t232:=Tryz.underlying163
 a232:=Tryz.isAgg163
 z232:=Tryz.sizeOf163
 v232:=Tryz.zeroValue163
 t233:=Tryz.underlying164
 a233:=Tryz.isAgg164
 z233:=Tryz.sizeOf164
 v233:=Tryz.zeroValue164
 g17:=by kernel_rfl
 g18:=by kernel_rfl
 g19:=by kernel_rfl
 i0:=by kernel_rfl
 i2:=by kernel_rfl
 i3:=by kernel_rfl
 i4:=by kernel_rfl
 i5:=by kernel_rfl
 i9:=by kernel_rfl
 i20:=by kernel_rfl
 i37:=by kernel_rfl
 i46:=by kernel_rfl
 i51:=by kernel_rfl
 i53:=by kernel_rfl
 i171:=by kernel_rfl
 i173:=by kernel_rfl
 i212:=by kernel_rfl
 i232:=by kernel_rfl
 i233:=by kernel_rfl
 m17:=by kernel_rfl
 m18:=by kernel_rfl
 m19:=by kernel_rfl }
open Go.RowKit Go.Sort Go.Lib in
/-- strconv.Itoa: "Itoa is equivalent to FormatInt(int64(i), 10).": i's DECIMAL NUMERAL ('Lib.itoa': a '-' where i is negative, then the digits), FOR EVERY int. The world behind the call: the world before it, new blocks behind the heap (the library's 'var a [24]byte'), draws. (LAID: no walk: one application.) -/
theorem Tryz.strconv_Itoa (n : Int) (h0 : -9223372036854775808 ≤ n) (h1 : n ≤ 9223372036854775807) (w : World) (htab : Lib.TabIs Tryz.prog w "internal/strconv.uint64pow10" .u64 Lib.pow10Tab) :
  Calls Tryz.prog 50 #[.int .i64 n] w fun e w'=>e = .returned (.string ⟨(Lib.itoa n).toArray⟩) ∧ ∃ k os,w' = grow (w.drewN k) os:=Any.strconv_Itoa Tryz.laysM171 n h0 h1 w htab
def Tryz.laysM143_ren : Go.Shelf.Ren:=⟨fun | 143=>110 | 219=>130 | 217=>143 | 225=>144 | 224=>145 | 267=>146 | 266=>149 | 314=>150 | n=>n,fun | 9=>9 | 3=>3 | 4=>4 | 5=>5 | 46=>100 | 146=>149 | 51=>148 | n=>n,fun | 1=>1 | n=>n⟩
theorem Tryz.laysM143 : Go.Proofs.LaysM.n143 Tryz.prog Tryz.laysM143_ren:={
 mixed:=by kernel_rfl
 f143:=Tryz.func110.trans (congrArg some (by kernel_rfl))
 f217:=Tryz.func143.trans (congrArg some (by kernel_rfl))
 f219:=Tryz.func130.trans (congrArg some (by kernel_rfl))
 f224:=Tryz.func145.trans (congrArg some (by kernel_rfl))
 f225:=Tryz.func144.trans (congrArg some (by kernel_rfl))
 f266:=Tryz.func149.trans (congrArg some (by kernel_rfl))
 f267:=Tryz.func146.trans (congrArg some (by kernel_rfl))
 f314:=Tryz.func150.trans (congrArg some (by kernel_rfl))
 t3:=Tryz.underlying3
 a3:=Tryz.isAgg3
 z3:=Tryz.sizeOf3
 v3:=Tryz.zeroValue3
 t4:=Tryz.underlying4
 a4:=Tryz.isAgg4
 z4:=Tryz.sizeOf4
 v4:=Tryz.zeroValue4
 t5:=Tryz.underlying5
 a5:=Tryz.isAgg5
 z5:=Tryz.sizeOf5
 v5:=Tryz.zeroValue5
 t9:=Tryz.underlying9
 a9:=Tryz.isAgg9
 z9:=Tryz.sizeOf9
 v9:=Tryz.zeroValue9
 t46:=Tryz.underlying100
 a46:=Tryz.isAgg100
 z46:=Tryz.sizeOf100
 v46:=Tryz.zeroValue100
 t51:=Tryz.underlying148
 a51:=Tryz.isAgg148
 z51:=Tryz.sizeOf148
 v51:=Tryz.zeroValue148
 t146:=Tryz.underlying149
 a146:=Tryz.isAgg149
 z146:=Tryz.sizeOf149
 v146:=Tryz.zeroValue149
 g1:=by kernel_rfl
 i3:=by kernel_rfl
 i4:=by kernel_rfl
 i5:=by kernel_rfl
 i9:=by kernel_rfl
 i46:=by kernel_rfl
 i51:=by kernel_rfl
 i146:=by kernel_rfl
 m1:=by kernel_rfl
 s1_3:=fun w h=>Go.Proofs.cell_of_shapedOpen_int (zero:=#[.int .i64 0]) (t:=3) h (of_decide_eq_true (by kernel_rfl)) (by kernel_rfl) rfl (by kernel_rfl) (by kernel_rfl) Tryz.underlying3 }
def Tryz.lays105_ren : Go.Shelf.Ren:=⟨fun | 105=>99 | 212=>119 | 99=>120 | 165=>77 | 166=>61 | 170=>121 | 169=>63 | 263=>134 | 264=>135 | 206=>136 | 240=>84 | 241=>103 | 276=>108 | 277=>127 | n=>n,fun | 9=>9 | 3=>3 | 4=>4 | 20=>20 | 0=>0 | 46=>100 | 109=>135 | 5=>5 | 72=>80 | 76=>84 | 51=>148 | 146=>149 | 53=>56 | 148=>98 | 70=>77 | 37=>78 | 75=>82 | 127=>114 | 164=>129 | 80=>90 | n=>n,fun | n=>n⟩
theorem Tryz.lays105 : Go.Proofs.Lays.n105 Tryz.prog Tryz.lays105_ren:={
 mixed:=by kernel_rfl
 f99:=Tryz.func120.trans (congrArg some (by kernel_rfl))
 f105:=Tryz.func99.trans (congrArg some (by kernel_rfl))
 f165:=Tryz.func77.trans (congrArg some (by kernel_rfl))
 f166:=Tryz.func61.trans (congrArg some (by kernel_rfl))
 f169:=Tryz.func63.trans (congrArg some (by kernel_rfl))
 f170:=Tryz.func121.trans (congrArg some (by kernel_rfl))
 f206:=Tryz.func136.trans (congrArg some (by kernel_rfl))
 f212:=Tryz.func119.trans (congrArg some (by kernel_rfl))
 f240:=Tryz.func84.trans (congrArg some (by kernel_rfl))
 f241:=Tryz.func103.trans (congrArg some (by kernel_rfl))
 f263:=Tryz.func134.trans (congrArg some (by kernel_rfl))
 f264:=Tryz.func135.trans (congrArg some (by kernel_rfl))
 f276:=Tryz.func108.trans (congrArg some (by kernel_rfl))
 f277:=Tryz.func127.trans (congrArg some (by kernel_rfl))
 t0:=Tryz.underlying0
 a0:=Tryz.isAgg0
 z0:=Tryz.sizeOf0
 v0:=Tryz.zeroValue0
 t3:=Tryz.underlying3
 a3:=Tryz.isAgg3
 z3:=Tryz.sizeOf3
 v3:=Tryz.zeroValue3
 t4:=Tryz.underlying4
 a4:=Tryz.isAgg4
 z4:=Tryz.sizeOf4
 v4:=Tryz.zeroValue4
 t5:=Tryz.underlying5
 a5:=Tryz.isAgg5
 z5:=Tryz.sizeOf5
 v5:=Tryz.zeroValue5
 t9:=Tryz.underlying9
 a9:=Tryz.isAgg9
 z9:=Tryz.sizeOf9
 v9:=Tryz.zeroValue9
 t20:=Tryz.underlying20
 a20:=Tryz.isAgg20
 z20:=Tryz.sizeOf20
 v20:=Tryz.zeroValue20
 t37:=Tryz.underlying78
 a37:=Tryz.isAgg78
 z37:=Tryz.sizeOf78
 v37:=Tryz.zeroValue78
 t46:=Tryz.underlying100
 a46:=Tryz.isAgg100
 z46:=Tryz.sizeOf100
 v46:=Tryz.zeroValue100
 t51:=Tryz.underlying148
 a51:=Tryz.isAgg148
 z51:=Tryz.sizeOf148
 v51:=Tryz.zeroValue148
 t53:=Tryz.underlying56
 a53:=Tryz.isAgg56
 z53:=Tryz.sizeOf56
 v53:=Tryz.zeroValue56
 t70:=Tryz.underlying77
 a70:=Tryz.isAgg77
 z70:=Tryz.sizeOf77
 v70:=Tryz.zeroValue77
 t72:=Tryz.underlying80
 a72:=Tryz.isAgg80
 z72:=Tryz.sizeOf80
 v72:=Tryz.zeroValue80
 t75:=Tryz.underlying82
 a75:=Tryz.isAgg82
 z75:=Tryz.sizeOf82
 v75:=Tryz.zeroValue82
 t76:=Tryz.underlying84
 a76:=Tryz.isAgg84
 z76:=Tryz.sizeOf84
 v76:=Tryz.zeroValue84
 t109:=Tryz.underlying135
 a109:=Tryz.isAgg135
 z109:=Tryz.sizeOf135
 v109:=Tryz.zeroValue135
 t127:=Tryz.underlying114
 a127:=Tryz.isAgg114
 z127:=Tryz.sizeOf114
 v127:=Tryz.zeroValue114
 t146:=Tryz.underlying149
 a146:=Tryz.isAgg149
 z146:=Tryz.sizeOf149
 v146:=Tryz.zeroValue149
 t148:=Tryz.underlying98
 a148:=Tryz.isAgg98
 z148:=Tryz.sizeOf98
 v148:=Tryz.zeroValue98
 t164:=Tryz.underlying129
 a164:=Tryz.isAgg129
 z164:=Tryz.sizeOf129
 v164:=Tryz.zeroValue129 }
theorem Tryz.Builder_Extra_105 : Builder.Extra Tryz.prog Tryz.lays105_ren:={
 sizeBuilder:=by kernel_rfl
 liesBuilder:=by kernel_rfl
 t5:=Tryz.underlying5
 a5:=Tryz.isAgg5
 z5:=Tryz.sizeOf5
 v5:=Tryz.zeroValue5
 infoByte:=by kernel_rfl
 cellsByte:=by kernel_rfl
 sizeByte:=by kernel_rfl
 neB5:=by decide }
open Go.RowKit Go.Lib in
/-- **strings.Repeat: count ≥ 0, the result within one allocation: count copies of s.** (LAID: no walk: one application.) -/
theorem Tryz.strings_Repeat (s : ByteArray) (c : Nat) (w : World) (hc : c ≤ 9223372036854775807) (hlen : s.size * c ≤ 140737488355328) :
  Calls Tryz.prog 99 #[.string s,.int .i64 c] w fun e w'=>e = .returned (.string ⟨(Lib.repeatL s.data.toList c).toArray⟩) ∧ Below w.heap.size w w':=Any.strings_Repeat Tryz.lays105 Tryz.Builder_Extra_105 s c w hc hlen
end Go.Proofs
end
section
namespace Go.Proofs.YthpkjkcfhipjhaaGreatDoor
set_option linter.unusedVariables false
set_option linter.unusedSimpArgs false
open Go.RowKit
theorem run_frombits (b : Int) (w : World) : (callFunc 112 #[.int .u64 b]).run Tryz.prog w = .ok (.value (.float .f64 b.toNat)) w:=by
 rw [run_callFunc_extern (e:=Extern.MathFloatBits.float64frombits) Tryz.func112 (by kernel_rfl) (by kernel_rfl) (by kernel_rfl) (by kernel_rfl)]
 rfl
/-- not equal to itself: a NaN -/
def fNaN (b : Int) : Bool:=FloatKind.f64.format.order b.toNat b.toNat != some .eq
def plainI (b : Int) : Int:=if fNaN b then 0x7ff8000000000000 else if b == 0x8000000000000000 then 0 else b
set_option maxRecDepth 100000 in
set_option maxHeartbeats 400000 in
theorem plain_c (b : Int) (w : World) :
  Calls Tryz.prog 88 #[.int .u64 b] w fun e w'=>e = .returned (.int .u64 (plainI b)) ∧ w' = w:=by
 have h1:=run_frombits
 go_enter Tryz.func88,Tryz.ntmps88
 go_wp2_with fail
 all_goals
  go_ret
  refine ⟨?_,rfl⟩
  congr 2
  simp [plainI,fNaN, *]
/-- equality of two values -/
def eqV (k n f : Int) (t : ByteArray) (k' n' f' : Int) (t' : ByteArray) : Bool:=k == k' && n == n' && f == f' && decide (t = t')
theorem toList_inj (a b : ByteArray) : a.toList = b.toList ↔ a = b:=by
 rw [ByteArray.toList_eq,ByteArray.toList_eq]
 constructor
 ·intro e
  have : a.data = b.data:=Array.toList_inj.1 e
  cases a;cases b;cases this;rfl
 ·rintro rfl;rfl
theorem run_eqV (k n f : Int) (t : ByteArray) (k' n' f' : Int) (t' : ByteArray) (w : World) :
  (binOp .eql 64 (.agg #[.int .i64 k,.int .i64 n,.int .u64 f,.string t]) (.agg #[.int .i64 k',.int .i64 n',.int .u64 f',.string t'])).run Tryz.prog w = .ok (.bool (eqV k n f t k' n' f' t')) w:=by
 simp [go_sem,Tryz.underlying64]
 unfold eqV
 simp only [toList_inj]
 by_cases h1 : k = k' <;> by_cases h2 : n = n' <;> by_cases h3 : f = f' <;> by_cases h4 : t = t' <;> simp [h1,h2,h3,h4]
theorem eqV_iff (k n f : Int) (t : ByteArray) (k' n' f' : Int) (t' : ByteArray) : eqV k n f t k' n' f' t' = true ↔ k = k' ∧ n = n' ∧ f = f' ∧ t = t':=by
 simp [eqV,and_assoc]
/-- is it a value? -/
def soundV (k n f : Int) (t : ByteArray) : Bool :=
 if k == 0 then eqV k n f t 0 0 0 ⟨#[]⟩
 else if k == 1 then eqV k n f t 1 n 0 ⟨#[]⟩ && (n == 0 || n == 1)
 else if k == 2 then eqV k n f t 2 n 0 ⟨#[]⟩
 else if k == 3 then eqV k n f t 3 0 f ⟨#[]⟩ && plainI f == f
 else if k == 4 then eqV k n f t 4 0 0 t && decide (t.size ≤ 4096)
 else false
theorem and_one_eq (n : Int) (h1 : -9223372036854775808 ≤ n) (h2 : n ≤ 9223372036854775807) : (n == bits .and .i64 n 1) = (n == 0 || n == 1):=by
 have key : bits .and .i64 n 1 = n % 2:=by
  show IntKind.i64.wrap (((BitVec.ofInt 64 n) &&& (BitVec.ofInt 64 1)).toNat : Int) = n % 2
  rw [BitVec.toNat_and,BitVec.toNat_ofInt,BitVec.toNat_ofInt]
  have e1 : ((1 : Int) % ((2 ^ 64 : Nat) : Int)).toNat = 1:=by decide
  have e2 : ((2 ^ 64 : Nat) : Int) = 18446744073709551616:=by decide
  rw [e1,Nat.and_one_is_mod,e2,IntKind.wrap_i64]
  omega
 rw [key,Bool.eq_iff_iff]
 simp
 omega
theorem bcell {W w1 : World} (hb : Below W.heap.size W w1) : (∀ b o,b < W.heap.size → w1.cell? ⟨b,o,none⟩ = W.cell? ⟨b,o,none⟩) ∧ (∀ b o,b < W.heap.size → w1.frozen? ⟨b,o,none⟩ = W.frozen? ⟨b,o,none⟩) :=
 ⟨fun b o h=>hb.cell (p:=⟨b,o,none⟩) h,fun b o h=>hb.frozen (p:=⟨b,o,none⟩) h⟩
theorem below_via {a W w1 : World} (hb : Below W.heap.size W w1) (h : Below a.heap.size a W) : Below a.heap.size a w1:=h.trans (hb.mono h.size)
theorem below_al {a w : World} (h : Below a.heap.size a w) (o : Obj) : Below a.heap.size a (w.alloc o):=h.alloc h.size o
theorem below_sc {B : Nat} {a w : World} {p : Addr} (hp : B ≤ p.block) (h : Below B a w) (u : Value) : Below B a (w.setCell p u):=h.setCell hp u
theorem below_undrew {w w' : World} (h : Below w.drew.heap.size w.drew w') : Below w.heap.size w w':=⟨h.os,h.tape,h.output,h.size,h.block⟩
theorem below_undrewN {w w' : World} {n : Nat} (h : Below (w.drewN n).heap.size (w.drewN n) w') : Below w.heap.size w w':=⟨h.os,h.tape,h.output,h.size,h.block⟩
theorem below_box (w : World) (o : Obj) : Below w.heap.size w (w.alloc o):=(Below.refl _ _).alloc (Nat.le_refl _) _
theorem below_box_drewN (w : World) (o : Obj) (n : Nat) : Below w.heap.size w ((w.alloc o).drewN n):=below_drewN (below_box w o) n
/-- a whole number of 64 bits -/
def I64 (n : Int) : Prop:=-9223372036854775808 ≤ n ∧ n ≤ 9223372036854775807
def U64 (n : Int) : Prop:=0 ≤ n ∧ n < 18446744073709551616
theorem cast_le_4096 (a : Nat) : ((a : Int) ≤ 4096) = (a ≤ 4096):=propext ⟨fun h=>by omega,fun h=>by omega⟩
set_option maxRecDepth 100000 in
set_option maxHeartbeats 400000 in
theorem sound_c (k n f : Int) (t : ByteArray) (w : World) (hn : I64 n) :
  Calls Tryz.prog 67 #[.agg #[.int .i64 k,.int .i64 n,.int .u64 f,.string t]] w fun e w'=>e = .returned (.bool (soundV k n f t)) ∧ Below w.heap.size w w':=by
 have h1:=run_eqV
 have h2:=and_one_eq n hn.1 hn.2
 go_enter Tryz.func67,Tryz.ntmps67
 go_wp2_with fail
 any_goals (go_quiet ((go_at_call 88;exact Calls.quiet_of_same (plain_c _ _))))
 all_goals try go_wp2_with fail
 all_goals (clear h1;go_ret;refine ⟨?_,by first | exact below_box _ _ | exact below_box_drewN _ _ _⟩;congr 2;first | (simp [soundV,eqV,cast_le_4096, *];done) | (simp [soundV,eqV, *,Bool.beq_comm (a:=f),Bool.and_assoc,Bool.and_comm];done) | (simp_all [soundV,eqV,cast_le_4096];done) | skip)
set_option maxRecDepth 100000 in
set_option maxHeartbeats 400000 in
theorem float_c (k n f : Int) (t : ByteArray) (w : World) : Calls Tryz.prog 92 #[.agg #[.int .i64 k,.int .i64 n,.int .u64 f,.string t]] w fun e w'=>e = .returned (.float .f64 f.toNat) ∧ Below w.heap.size w w':=by
 have h1:=run_frombits
 go_enter Tryz.func92,Tryz.ntmps92
 go_wp2_with fail
 go_ret
 exact ⟨rfl,below_box _ _⟩
end Go.Proofs.YthpkjkcfhipjhaaGreatDoor
end
section
namespace Go.Proofs.YthpkjkcfhipjhaaGreatDoor
set_option linter.unusedVariables false
set_option linter.unusedSimpArgs false
open Go.RowKit
/-- A value. -/
structure V where
 k : Int
 n : Int
 f : Int
 t : ByteArray
end Go.Proofs.YthpkjkcfhipjhaaGreatDoor
end
section
namespace Go.Proofs.YthpkjkcfhipjhaaGreatDoor
set_option linter.unusedVariables false
set_option linter.unusedSimpArgs false
open Go.RowKit
theorem sizeBuilder : (Tryz.prog.info? 80).map (·.size) = some 2:=by kernel_rfl
theorem liesBuilder : liesAt Tryz.prog Tryz.prog.depth 80 (2 / Tryz.prog.cellsOf 80) 0 80 1 = true:=by kernel_rfl
theorem infoByte : (Tryz.prog.info? 5).map (fun i=>(i.zero,i.size,i.bytes)) = some (some (.int .u8 0),1,1):=by kernel_rfl
set_option maxHeartbeats 1000000 in
set_option maxRecDepth 100000 in
theorem copyCheck_used (b : Nat) (w : World) (h0 : w.cell? ⟨b,0,none⟩ = some (.pointer (some ⟨b,0,none⟩))) :
  Calls Tryz.prog 84 #[.pointer (some ⟨b,0,none⟩)] w fun e w'=>e = .returned (.tuple #[]) ∧ w = w':=by
 obtain ⟨j,hj,_⟩:=Option.map_eq_some_iff.1 sizeBuilder
 go_enter Tryz.func84,Tryz.ntmps84
 go_wp2
 rw [Lib.run_neq_ptr_same w _ Tryz.underlying77 hj]
 go_wp2
 go_end0
 exact ⟨rfl,rfl⟩
set_option maxHeartbeats 1000000 in
set_option maxRecDepth 100000 in
theorem copyCheck_fresh (b : Nat) (w : World) (h0 : w.cell? ⟨b,0,none⟩ = some (.pointer none)) (hsh : w.shape? b = some (80,2)) (hfz : w.frozen? ⟨b,0,none⟩ = false) :
  Calls Tryz.prog 84 #[.pointer (some ⟨b,0,none⟩)] w fun e w'=>e = .returned (.tuple #[]) ∧ w' = w.setCell ⟨b,0,none⟩ (.pointer (some ⟨b,0,none⟩)):=by
 obtain ⟨j,hj,hjs⟩:=Option.map_eq_some_iff.1 sizeBuilder
 go_enter Tryz.func84,Tryz.ntmps84
 go_wp2
 rw [Lib.run_to_unsafe w ⟨b,0,none⟩ Tryz.underlying77 Tryz.underlying129 hj (by rw [hjs];decide) hsh (Nat.zero_lt_succ 1)]
 simp only [Result.andThen]
 rw [Oper.upon_value]
 go_wp2
 rw [run_callFunc_extern Tryz.func108 (by kernel_rfl) (by kernel_rfl) (by kernel_rfl) (e:=Extern.AbiNoEscape.same) (by kernel_rfl)]
 rw [Lib.run_noEscape]
 simp only [Result.andThen]
 rw [Oper.upon_value]
 go_wp2
 rw [Lib.run_from_unsafe w ⟨b,0,none⟩ Tryz.underlying129 Tryz.underlying77 hj hsh liesBuilder]
 simp only [Result.andThen]
 rw [Oper.upon_value]
 go_wp2
 go_end0
 exact ⟨rfl,rfl⟩
/-- the builder in block b holds these bytes -/
def Bld (B b : Nat) (l : List UInt8) (w : World) : Prop:=Lib.IsBuilder 80 5 B b (Lib.byteCells l) w
theorem copyCheck_b (B b : Nat) (bs : List Value) (w : World) (h : Lib.IsBuilder 80 5 B b bs w) :
  Calls Tryz.prog 84 #[.pointer (some ⟨b,0,none⟩)] w fun e w'=>e = .returned (.tuple #[]) ∧ (Lib.BuilderAt 80 5 B b (.pointer (some ⟨b,0,none⟩)) bs w' ∧ Below B w w' ∧ ∀ k,k ≠ b → w'.heap[k]? = w.heap[k]?):=by
 rcases h with h | h
 ·refine (copyCheck_fresh b w h.cell0 h.shape h.frozen0).mono ?_
  rintro e w' ⟨rfl,rfl⟩
  exact ⟨rfl,h.used _,(Below.refl B w).setCell (p:=⟨b,0,none⟩) h.1 _,fun k hk=>Below.heap_setCell _ _ _ _ hk⟩
 ·refine (copyCheck_used b w h.cell0).mono ?_
  rintro e w' ⟨rfl,rfl⟩
  exact ⟨rfl,h,Below.refl B _,fun _ _=>rfl⟩
theorem byteCells_app (l m : List UInt8) : Lib.byteCells (l ++ m) = Lib.byteCells l ++ Lib.byteCells m:=by simp [Lib.byteCells]
set_option maxHeartbeats 2000000 in
set_option maxRecDepth 100000 in
theorem writeByte_c (B b : Nat) (l : List UInt8) (c : UInt8) (w : World) (h : Bld B b l w) (hlen : l.length + 1 ≤ 140737488355328) (hBw : B ≤ w.heap.size) :
  Calls Tryz.prog 57 #[.pointer (some ⟨b,0,none⟩),.int .u8 c.toNat] w fun e w'=>e = .returned .nilIface ∧ Bld B b (l ++ [c]) w' ∧ Below B w w':=by
 obtain ⟨i0,hi,hz0,hz1,hz2⟩:=info_parts infoByte
 have hll : (Lib.byteCells l).length = l.length:=by simp [Lib.byteCells]
 go_enter Tryz.func57,Tryz.ntmps57
 go_wp2_with (go_at_call 84;refine (copyCheck_b B b _ _ h).mono ?_)
 rintro e w1 ⟨rfl,h1,hb1,_⟩
 obtain ⟨hB,v,hbk,hown,hne⟩:=h1
 have c0 : w1.cell? ⟨b,0,none⟩ = some (.pointer (some ⟨b,0,none⟩)):=by rw [Lib.cell_of_heap hbk];rfl
 have c1 : w1.cell? ⟨b,1,none⟩ = some v:=by rw [Lib.cell_of_heap hbk];rfl
 go_wp2_with (at_builtin;refine wpList_append_own _ rfl _ _ 78 rfl B 5 i0 (.int .u8 0) 1 1 Tryz.underlying78 hi hz0 hz1 hz2 rfl (by decide) _ _ _ rfl (hown.alloc _) ⟨w1.heap.size,0,none⟩ 1 1 [.int .u8 c.toNat] rfl rfl ?c1 ?c2 ?c3 ?c4 ?c5 ?_)
 case c1 =>
  intro j u hj
  match j,hj with
  | 0,hj=>simp at hj;subst hj;simp [Addr.add]
 case c2=>intro u hu;simp at hu;subst hu;rfl
 case c3=>unfold maxLen;omega
 case c4=>omega
 case c5=>have:=hb1.size;simp;omega
 intro v' w2 hown' hgrow _
 have hlt : b < w1.heap.size:=by
  rcases Nat.lt_or_ge b w1.heap.size with h' | h'
  ·exact h'
  ·simp [Array.getElem?_eq_none h'] at hbk
 have hb2 : w2.heap[b]? = some (.cells #[.pointer (some ⟨b,0,none⟩),v] 80 (0,0)):=by
  rw [hgrow.block b (by simp;omega) (fun e=>hne e.symm),Lib.alloc_old w1 _ b hlt]
  exact hbk
 have d0 : w2.cell? ⟨b,0,none⟩ = some (.pointer (some ⟨b,0,none⟩)):=by rw [Lib.cell_of_heap hb2];rfl
 have d1 : w2.cell? ⟨b,1,none⟩ = some v:=by rw [Lib.cell_of_heap hb2];rfl
 have f1 : w2.frozen? ⟨b,1,none⟩ = false:=Lib.frozen_of_heap hb2 1
 obtain ⟨g,cap,rfl⟩ : ∃ g cap,v' = .slice (some ⟨g,0,none⟩) (l.length + 1) cap:=by
  rcases hown'.2 with ⟨_,h0⟩ | ⟨g,cap,cur,hv,_⟩
  ·omega
  ·exact ⟨g,cap,hv⟩
 go_wp2
 go_ret
 refine ⟨rfl, ?_, ?_⟩
 ·refine .inr ?_
  rw [byteCells_app]
  exact Lib.BuilderAt.put (T:=80) (e:=5) hB hb2 (bs':=Lib.byteCells l ++ [.int .u8 c.toNat]) (by simpa [hll] using hown') (by decide)
 ·exact ((hb1.alloc (by have:=hb1.size;omega) _).grown hgrow (by have:=hb1.size;simp;omega) (fun k hk=>(hown.lt k hk).1)).setCell (p:=⟨b,1,none⟩) hB _
set_option maxHeartbeats 2000000 in
set_option maxRecDepth 100000 in
theorem writeString_c (B b : Nat) (l : List UInt8) (s : ByteArray) (w : World) (h : Bld B b l w) (hlen : l.length + s.size ≤ 140737488355328) (hBw : B ≤ w.heap.size) :
  Calls Tryz.prog 61 #[.pointer (some ⟨b,0,none⟩),.string s] w fun e w'=>e = .returned (.tuple #[.int .i64 s.size,.nilIface]) ∧ Bld B b (l ++ s.data.toList) w' ∧ Below B w w':=by
 obtain ⟨i0,hi,hz0,hz1,hz2⟩:=info_parts infoByte
 have hll : (Lib.byteCells l).length = l.length:=by simp [Lib.byteCells]
 go_enter Tryz.func61,Tryz.ntmps61
 go_wp2_with (go_at_call 84;refine (copyCheck_b B b _ _ h).mono ?_)
 rintro e w1 ⟨rfl,h1,hb1,_⟩
 obtain ⟨hB,v,hbk,hown,hne⟩:=h1
 have c0 : w1.cell? ⟨b,0,none⟩ = some (.pointer (some ⟨b,0,none⟩)):=by rw [Lib.cell_of_heap hbk];rfl
 have c1 : w1.cell? ⟨b,1,none⟩ = some v:=by rw [Lib.cell_of_heap hbk];rfl
 go_wp2_with (at_builtin;refine Lib.wpList_append_own_string _ rfl _ _ 78 9 rfl B 5 i0 Tryz.underlying78 Tryz.underlying9 hi hz0 hz1 hz2 _ _ _ rfl hown s rfl ?c3 ?c4 ?c5 ?_)
 case c3=>unfold maxLen;omega
 case c4=>omega
 case c5=>have:=hb1.size;omega
 intro v' w2 hown' hgrow _
 have hlt : b < w1.heap.size:=by
  rcases Nat.lt_or_ge b w1.heap.size with h' | h'
  ·exact h'
  ·simp [Array.getElem?_eq_none h'] at hbk
 have hb2 : w2.heap[b]? = some (.cells #[.pointer (some ⟨b,0,none⟩),v] 80 (0,0)):=by
  rw [hgrow.block b hlt (fun e=>hne e.symm)]
  exact hbk
 have d0 : w2.cell? ⟨b,0,none⟩ = some (.pointer (some ⟨b,0,none⟩)):=by rw [Lib.cell_of_heap hb2];rfl
 have d1 : w2.cell? ⟨b,1,none⟩ = some v:=by rw [Lib.cell_of_heap hb2];rfl
 have f1 : w2.frozen? ⟨b,1,none⟩ = false:=Lib.frozen_of_heap hb2 1
 obtain ⟨ao,n',cap,rfl⟩ : ∃ ao n' cap,v' = .slice ao n' cap:=by
  rcases hown'.2 with ⟨hv,_⟩ | ⟨g,cap,cur,hv,_⟩
  ·exact ⟨_,_,_,hv⟩
  ·exact ⟨_,_,_,hv⟩
 go_wp2
 go_ret2
 refine ⟨rfl, ?_, ?_⟩
 ·refine .inr ?_
  rw [byteCells_app]
  exact Lib.BuilderAt.put (T:=80) (e:=5) hB hb2 (bs':=Lib.byteCells l ++ Lib.strCells s) (by simpa [Lib.strCells_length,hll] using hown') (by decide)
 ·exact (hb1.grown hgrow (by have:=hb1.size;omega) (fun k hk=>(hown.lt k hk).1)).setCell (p:=⟨b,1,none⟩) hB _
set_option maxHeartbeats 2000000 in
set_option maxRecDepth 100000 in
theorem write_c (B b : Nat) (l : List UInt8) (ad : Addr) (m c : Nat) (news : List UInt8) (w : World) (h : Bld B b l w) (hlen : l.length + m ≤ 140737488355328) (hBw : B ≤ w.heap.size)
  (hl : news.length = m) (hnews : ∀ j u,(Lib.byteCells news)[j]? = some u → w.cell? (ad.add j) = some u) (hadb : ad.block ≠ b) :
  Calls Tryz.prog 58 #[.pointer (some ⟨b,0,none⟩),.slice (some ad) m c] w fun e w'=>e = .returned (.tuple #[.int .i64 m,.nilIface]) ∧ Bld B b (l ++ news) w' ∧ Below B w w':=by
 obtain ⟨i0,hi,hz0,hz1,hz2⟩:=info_parts infoByte
 have hll : (Lib.byteCells l).length = l.length:=by simp [Lib.byteCells]
 have hnl : (Lib.byteCells news).length = m:=by simp [Lib.byteCells,hl]
 go_enter Tryz.func58,Tryz.ntmps58
 go_wp2_with (go_at_call 84;refine (copyCheck_b B b _ _ h).mono ?_)
 rintro e w1 ⟨rfl,h1,hb1,hfar⟩
 obtain ⟨hB,v,hbk,hown,hne⟩:=h1
 have c0 : w1.cell? ⟨b,0,none⟩ = some (.pointer (some ⟨b,0,none⟩)):=by rw [Lib.cell_of_heap hbk];rfl
 have c1 : w1.cell? ⟨b,1,none⟩ = some v:=by rw [Lib.cell_of_heap hbk];rfl
 have hnews1 : ∀ j u,(Lib.byteCells news)[j]? = some u → w1.cell? (ad.add j) = some u:=fun j u hj=>by
  rw [World.cell?_of_block (w:=w) (hfar _ (by unfold Addr.add;split <;> exact hadb))]
  exact hnews j u hj
 clear hfar
 go_wp2_with (at_builtin;refine wpList_append_own _ rfl _ _ 78 rfl B 5 i0 (.int .u8 0) 1 1 Tryz.underlying78 hi hz0 hz1 hz2 rfl (by decide) _ _ _ rfl hown ad m c (Lib.byteCells news) rfl (by omega) hnews1 ?c2 ?c3 ?c4 ?c5 ?_)
 case c2=>intro u hu;simp only [Lib.byteCells,List.mem_map] at hu;obtain ⟨x,_,rfl⟩:=hu;rfl
 case c3=>unfold maxLen;omega
 case c4=>omega
 case c5=>have:=hb1.size;omega
 intro v' w2 hown' hgrow _
 have hlt : b < w1.heap.size:=by
  rcases Nat.lt_or_ge b w1.heap.size with h' | h'
  ·exact h'
  ·simp [Array.getElem?_eq_none h'] at hbk
 have hb2 : w2.heap[b]? = some (.cells #[.pointer (some ⟨b,0,none⟩),v] 80 (0,0)):=by
  rw [hgrow.block b hlt (fun e=>hne e.symm)]
  exact hbk
 have d0 : w2.cell? ⟨b,0,none⟩ = some (.pointer (some ⟨b,0,none⟩)):=by rw [Lib.cell_of_heap hb2];rfl
 have d1 : w2.cell? ⟨b,1,none⟩ = some v:=by rw [Lib.cell_of_heap hb2];rfl
 have f1 : w2.frozen? ⟨b,1,none⟩ = false:=Lib.frozen_of_heap hb2 1
 obtain ⟨ao,n',cap,rfl⟩ : ∃ ao n' cap,v' = .slice ao n' cap:=by
  rcases hown'.2 with ⟨hv,_⟩ | ⟨g,cap,cur,hv,_⟩
  ·exact ⟨_,_,_,hv⟩
  ·exact ⟨_,_,_,hv⟩
 go_wp2
 go_ret2
 refine ⟨rfl, ?_, ?_⟩
 ·refine .inr ?_
  rw [byteCells_app]
  exact Lib.BuilderAt.put (T:=80) (e:=5) hB hb2 (bs':=Lib.byteCells l ++ Lib.byteCells news) (by simpa [hnl,hll] using hown') (by decide)
 ·exact (hb1.grown hgrow (by have:=hb1.size;omega) (fun k hk=>(hown.lt k hk).1)).setCell (p:=⟨b,1,none⟩) hB _
theorem string_b (B b : Nat) (l : List UInt8) (w : World) (h : Bld B b l w) (hBw : B ≤ w.heap.size) :
  Calls Tryz.prog 63 #[.pointer (some ⟨b,0,none⟩)] w fun e w'=>e = .returned (.string ⟨l.toArray⟩) ∧ Below B w w':=Tryz.Builder_String_any B b l w h hBw
theorem bld_new (w : World) : Bld w.heap.size w.heap.size [] (w.alloc (.cells #[.pointer none,.slice none 0 0] 80)):=by
 refine .inl ⟨Nat.le_refl _,.slice none 0 0,heap_alloc_new w _, ?_,by simp [Value.ownBlock]⟩
 exact ⟨rfl,.inl ⟨rfl,rfl⟩⟩
theorem bld_al {B b : Nat} {l : List UInt8} {w : World} (h : Bld B b l w) (o : Obj) : Bld B b l (w.alloc o):=by
 rcases h with ⟨hB,v,hb,hown,hne⟩ | ⟨hB,v,hb,hown,hne⟩
 ·refine .inl ⟨hB,v, ?_,hown.alloc _,hne⟩
  rw [Lib.alloc_old w _ b (by rcases Nat.lt_or_ge b w.heap.size with h' | h';exact h';simp [Array.getElem?_eq_none h'] at hb)];exact hb
 ·refine .inr ⟨hB,v, ?_,hown.alloc _,hne⟩
  rw [Lib.alloc_old w _ b (by rcases Nat.lt_or_ge b w.heap.size with h' | h';exact h';simp [Array.getElem?_eq_none h'] at hb)];exact hb
theorem bld_drew {B b : Nat} {l : List UInt8} {w : World} (h : Bld B b l w) : Bld B b l w.drew:=h
theorem Bld.lt {B b : Nat} {l : List UInt8} {w : World} (h : Bld B b l w) : b < w.heap.size:=by
 rcases h with h | h
 ·exact h.lt
 ·exact h.lt
theorem Bld.below {B b : Nat} {l : List UInt8} {w : World} (h : Bld B b l w) : B ≤ b:=by
 rcases h with h | h <;> exact h.1
end Go.Proofs.YthpkjkcfhipjhaaGreatDoor
end
section
namespace Go.Proofs.YthpkjkcfhipjhaaGreatDoor
set_option linter.unusedVariables false
set_option linter.unusedSimpArgs false
open Ieee
theorem signed_shift (s : Bool) (m a b : Nat) : signed s m (a + b) = signed s m a * (2 ^ b : Nat):=by
 unfold signed
 cases s <;> simp [Nat.shiftLeft_eq,Nat.pow_add,Int.mul_assoc,Int.neg_mul]
theorem cmp_scale (x y : Int) (k : Nat) (hk : 0 < k) : compare (x * (k : Int)) (y * (k : Int)) = compare x y:=by
 have h : ((0 : Int) < k):=by omega
 rcases Int.lt_trichotomy x y with h1 | h1 | h1
 ·have : x * (k : Int) < y * k:=Int.mul_lt_mul_of_pos_right h1 h
  rw [Int.compare_eq_lt.2 h1,Int.compare_eq_lt.2 this]
 ·rw [h1];simp
 ·have : y * (k : Int) < x * k:=Int.mul_lt_mul_of_pos_right h1 h
  rw [Int.compare_eq_gt.2 h1,Int.compare_eq_gt.2 this]
theorem order_numbers (s t : Bool) (m n : Nat) (i j : Int) (hi : -1074 ≤ i) (hj : -1074 ≤ j) :
  Datum.order (.number s m i) (.number t n j) = some (compare (signed s m (i + 1074).toNat) (signed t n (j + 1074).toNat)):=by
 simp only [Datum.order]
 have e1 : (i + 1074).toNat = (i - min i j).toNat + (min i j + 1074).toNat:=by omega
 have e2 : (j + 1074).toNat = (j - min i j).toNat + (min i j + 1074).toNat:=by omega
 rw [e1,e2,signed_shift,signed_shift,cmp_scale _ _ _ (Nat.two_pow_pos _)]
/-- what a rung stands for, in units of the least place -/
def rval (r : Nat) : Nat:=if r < 4503599627370496 then r else (4503599627370496 + r % 4503599627370496) <<< (r / 4503599627370496 - 1)
theorem rval_succ (r : Nat) : rval r < rval (r + 1):=by
 unfold rval
 by_cases h1 : r + 1 < 4503599627370496
 ·rw [if_pos (by omega),if_pos h1];omega
 ·rw [if_neg h1]
  by_cases h2 : r < 4503599627370496
  ·rw [if_pos h2]
   have : r = 4503599627370495:=by omega
   subst this;decide
  ·rw [if_neg h2]
   by_cases h3 : (r + 1) % 4503599627370496 = 0
   ·have e1 : r % 4503599627370496 = 4503599627370495:=by omega
    have e2 : (r + 1) / 4503599627370496 - 1 = (r / 4503599627370496 - 1) + 1:=by omega
    rw [h3,e1,e2,Nat.shiftLeft_eq,Nat.shiftLeft_eq,Nat.pow_succ]
    have:=Nat.two_pow_pos (r / 4503599627370496 - 1)
    generalize 2 ^ (r / 4503599627370496 - 1) = p at *
    omega
   ·have e1 : (r + 1) % 4503599627370496 = r % 4503599627370496 + 1:=by omega
    have e2 : (r + 1) / 4503599627370496 = r / 4503599627370496:=by omega
    rw [e1,e2,Nat.shiftLeft_eq,Nat.shiftLeft_eq]
    exact Nat.mul_lt_mul_of_pos_right (by omega) (Nat.two_pow_pos _)
theorem rval_lt {a b : Nat} (h : a < b) : rval a < rval b:=by
 induction b with
 | zero=>omega
 | succ b ih =>
  by_cases e : a = b
  ·subst e;exact rval_succ a
  ·exact Nat.lt_trans (ih (by omega)) (rval_succ b)
def negW (x : Nat) : Bool:=x / 9223372036854775808 % 2 == 1
def rungW (x : Nat) : Nat:=x % 9223372036854775808
/-- the place of a word that is no NaN in the order of floats -/
def sr (x : Nat) : Int:=if negW x then -(rungW x : Int) else rungW x
theorem read_fin {x : Nat} (h : rungW x < 9218868437227405312) : ∃ m i,double.read x = .number (negW x) m i ∧ -1074 ≤ i ∧ i ≤ 971 ∧ m <<< (i + 1074).toNat = rval (rungW x) ∧ m < 9007199254740992:=by
 unfold Format.read
 have s : double.signWeight = 9223372036854775808:=by decide
 have b : double.binade = 4503599627370496:=by decide
 have f : double.infRung = 9218868437227405312:=by decide
 have l : double.leastPlace = -1074:=by decide
 simp only [s,b,f,l]
 change rungW x < _ at h
 unfold rungW at h ⊢
 unfold negW
 generalize hr : x % 9223372036854775808 = r at *
 by_cases h1 : r < 4503599627370496
 ·rw [if_pos h1]
  exact ⟨r, -1074,rfl,by omega,by omega,by simp [rval,h1],by omega⟩
 ·rw [if_neg h1,if_pos h]
  refine ⟨_,_,rfl,by omega,by omega, ?_,by omega⟩
  rw [rval,if_neg h1]
  congr 1
  omega
theorem read_inf {x : Nat} (h : rungW x = 9218868437227405312) : double.read x = .infinity (negW x):=by
 unfold Format.read
 have s : double.signWeight = 9223372036854775808:=by decide
 have b : double.binade = 4503599627370496:=by decide
 have f : double.infRung = 9218868437227405312:=by decide
 simp only [s,b,f]
 unfold rungW at h
 rw [h];rfl
theorem signed_val (s : Bool) (m k : Nat) : signed s m k = if s then -((m <<< k : Nat) : Int) else ((m <<< k : Nat) : Int):=rfl
theorem order_sr {x y : Nat} (hx : rungW x ≤ 9218868437227405312) (hy : rungW y ≤ 9218868437227405312) : double.order x y = some (compare (sr x) (sr y)):=by
 have hz : rval 0 = 0:=by decide
 have key : ∀ (s t : Bool) (a b : Nat),compare (if s then -((rval a : Nat) : Int) else (rval a : Nat)) (if t then -((rval b : Nat) : Int) else (rval b : Nat)) = compare (if s then -(a : Int) else (a : Int)) (if t then -(b : Int) else (b : Int)):=by
  intro s t a b
  have h1 : a < b → rval a < rval b:=rval_lt
  have h2 : b < a → rval b < rval a:=rval_lt
  have h3 : 0 < a → 0 < rval a:=fun h=>by have:=rval_lt h;omega
  have h4 : 0 < b → 0 < rval b:=fun h=>by have:=rval_lt h;omega
  have h5 : a = b → rval a = rval b:=fun h=>by rw [h]
  have h6 : a = 0 → rval a = 0:=fun h=>by rw [h,hz]
  have h7 : b = 0 → rval b = 0:=fun h=>by rw [h,hz]
  have tri : ∀ (p q p' q' : Int),(p < q → p' < q') → (p = q → p' = q') → (q < p → q' < p') → compare p' q' = compare p q:=by
   intro p q p' q' k1 k2 k3
   rcases Int.lt_trichotomy p q with h | h | h
   ·rw [Int.compare_eq_lt.2 h,Int.compare_eq_lt.2 (k1 h)]
   ·rw [h,k2 h];simp
   ·rw [Int.compare_eq_gt.2 h,Int.compare_eq_gt.2 (k3 h)]
  refine tri _ _ _ _ ?_ ?_ ?_ <;> cases s <;> cases t <;> simp only [if_true,Bool.false_eq_true,if_false] <;> intro h <;> omega
 show Datum.order (double.read x) (double.read y) = _
 unfold sr
 rcases Nat.lt_or_eq_of_le hx with hx | hx <;> rcases Nat.lt_or_eq_of_le hy with hy | hy
 ·obtain ⟨m,i,e1,i1,_,v1,_⟩:=read_fin hx
  obtain ⟨n,j,e2,j1,_,v2,_⟩:=read_fin hy
  rw [e1,e2,order_numbers _ _ _ _ _ _ i1 j1,signed_val,signed_val,v1,v2,key]
 ·obtain ⟨m,i,e1,_⟩:=read_fin hx
  rw [e1,read_inf hy]
  simp only [Datum.order]
  rw [hy]
  cases negW x <;> cases negW y <;> simp only [if_true,Bool.false_eq_true,if_false] <;> first | rw [Int.compare_eq_lt.2 (by omega)] | rw [Int.compare_eq_gt.2 (by omega)]
 ·obtain ⟨m,i,e1,_⟩:=read_fin hy
  rw [e1,read_inf hx]
  simp only [Datum.order]
  rw [hx]
  cases negW x <;> cases negW y <;> simp only [if_true,Bool.false_eq_true,if_false] <;> first | rw [Int.compare_eq_lt.2 (by omega)] | rw [Int.compare_eq_gt.2 (by omega)]
 ·rw [read_inf hx,read_inf hy]
  simp only [Datum.order]
  rw [hx,hy]
  cases negW x <;> cases negW y <;> decide
end Go.Proofs.YthpkjkcfhipjhaaGreatDoor
end
section
namespace Go.Proofs.YthpkjkcfhipjhaaGreatDoor
set_option linter.unusedVariables false
set_option linter.unusedSimpArgs false
open Go.RowKit
def hexL : List UInt8:=[48,49,50,51,52,53,54,55,56,57,97,98,99,100,101,102]
def hexD (n : Nat) : UInt8:=hexL.getD n 0
def oddB (c : UInt8) : Bool:=decide (c.toNat < 32) || decide (126 < c.toNat) || c == 92
def escL (c : UInt8) : List UInt8 :=
 if c = 39 then [39,39] else if oddB c then [92,120,hexD (c.toNat / 16),hexD (c.toNat % 16)] else [c]
def quotedL (s : List UInt8) : List UInt8:=39 :: (s.flatMap escL ++ [39])
theorem escL_len (c : UInt8) : (escL c).length ≤ 4:=by
 unfold escL;split <;> (try split) <;> simp
theorem escs_len (s : List UInt8) : (s.flatMap escL).length ≤ 4 * s.length:=by
 induction s with
 | nil=>simp
 | cons c s ih=>simp only [List.flatMap_cons,List.length_append,List.length_cons];have:=escL_len c;omega
theorem take_snoc' (s : ByteArray) (k : Nat) (h : k < s.size) : s.data.toList.take (k + 1) = s.data.toList.take k ++ [s[k]]:=by
 rw [List.take_succ_eq_append_getElem (by simpa using h)];rfl
/-- what the builder holds behind k bytes -/
def partQ (s : ByteArray) (k : Nat) : List UInt8:=39 :: (s.data.toList.take k).flatMap escL
theorem partQ_len (s : ByteArray) (k : Nat) (h : k ≤ s.size) : (partQ s k).length ≤ 1 + 4 * k:=by
 have:=escs_len (s.data.toList.take k)
 have h2 : (s.data.toList.take k).length ≤ k:=List.length_take_le _ _
 simp only [partQ,List.length_cons];omega
theorem partQ_succ (s : ByteArray) (k : Nat) (h : k < s.size) : partQ s (k + 1) = partQ s k ++ escL s[k]:=by
 unfold partQ
 rw [take_snoc' s k h];simp
def hexBA : ByteArray:=⟨#[48,49,50,51,52,53,54,55,56,57,97,98,99,100,101,102]⟩
theorem hexBA_get (n : Nat) (h : n < 16) : hexBA.data[n]? = some (hexD n):=by
 have : ∀ n : Fin 16,hexBA.data[n.1]? = some (hexD n.1):=by decide
 exact this ⟨n,h⟩
theorem hexBA_size : hexBA.size = 16:=rfl
theorem idx_hex (n : Nat) (h : n < 16) (m : Int) (hm : m = (n : Int)) (w : World) : (Instr.index 9 (.string ⟨#[48,49,50,51,52,53,54,55,56,57,97,98,99,100,101,102]⟩) (.int .u8 m)).run Tryz.prog w = .ok (.int .u8 (hexD n).toNat) w:=by
 have h1 : (⟨#[48,49,50,51,52,53,54,55,56,57,97,98,99,100,101,102]⟩ : ByteArray) = hexBA:=rfl
 subst hm
 rw [h1]
 have h2:=hexBA_get n h
 have hz:=hexBA_size
 have hlt : n < hexBA.size:=by omega
 have hg : hexBA[n] = hexD n:=by
  have : hexBA.data[n]? = some hexBA[n]:=by rw [Array.getElem?_eq_getElem];rfl
  rw [this] at h2;exact Option.some.inj h2
 have hlt' : ¬ 16 ≤ n:=by omega
 go_simp
 intro hh;exfalso;omega
theorem and15 (c : UInt8) : bits .and .u8 (c.toNat : Int) 15 = (c.toNat : Int) % 16:=by
 have : ∀ c : Fin 256,bits .and .u8 (c.1 : Int) 15 = (c.1 : Int) % 16:=by decide +kernel
 exact this c.toFin
theorem cells_new (w : World) (cs : List UInt8) (T : TypeId) (j : Nat) (u : Value) (h : (Lib.byteCells cs)[j]? = some u) :
  (w.alloc (.cells (Lib.byteCells cs).toArray T)).cell? ((⟨w.heap.size,0,none⟩ : Addr).add j) = some u:=by
 have:=Lib.cell_of_heap (heap_alloc_new w (.cells (Lib.byteCells cs).toArray T)) j
 have ha : ((⟨w.heap.size,0,none⟩ : Addr).add j) = ⟨w.heap.size,j,none⟩:=by
  unfold Addr.add;split
  ·subst_vars;rfl
  ·simp
 rw [ha,this];simp only [List.getElem?_toArray,h]
theorem write4_c (B b : Nat) (l : List UInt8) (c1 c2 : UInt8) (w : World) (h : Bld B b l w) (hlen : l.length + 4 ≤ 140737488355328) (hBw : B ≤ w.heap.size) :
  Calls Tryz.prog 58 #[.pointer (some ⟨b,0,none⟩),.slice (some ⟨w.heap.size,0,none⟩) 4 4] (w.alloc (.cells #[.int .u8 92,.int .u8 120,.int .u8 c1.toNat,.int .u8 c2.toNat] 5)).drew fun e w'=>e = .returned (.tuple #[.int .i64 4,.nilIface]) ∧ Bld B b (l ++ [92,120,c1,c2]) w' ∧ Below B w w':=by
 have hlt:=h.lt
 refine (write_c B b l ⟨w.heap.size,0,none⟩ 4 4 [92,120,c1,c2] _ (bld_drew (bld_al h _)) hlen (by simp;omega) rfl (fun j u hj=>cells_new w [92,120,c1,c2] _ j u hj) (by simp;omega)).mono ?_
 rintro e w' ⟨rfl,h1,h2⟩
 exact ⟨rfl,h1,(((Below.refl B w).alloc hBw _).drew).trans h2⟩
set_option maxRecDepth 100000 in
set_option maxHeartbeats 2000000 in
theorem quoted_c (s : ByteArray) (w : World) (hs : s.size ≤ 4096) :
  Calls Tryz.prog 97 #[.string s] w fun e w'=>e = .returned (.string ⟨(quotedL s.data.toList).toArray⟩) ∧ Below w.heap.size w w':=by
 have hnew:=bld_new w
 go_enter Tryz.func97,Tryz.ntmps97
 go_wp2_with fail
 refine (writeByte_c w.heap.size w.heap.size [] 39 _ hnew (by simp) (by simp)).mono ?_
 rintro e w1 ⟨rfl,h1,hb1⟩
 have hb0 : Below w.heap.size w w1:=(below_box w _).trans hb1
 have hz : w.heap.size < w1.heap.size:=by have:=hb1.size;simp at this;omega
 clear hnew hb1
 go_wp2_with fail
 go_loopw [9] (fun i wr=>∃ k : Nat,k ≤ s.size ∧ i = .int .i64 k ∧ Bld w.heap.size w.heap.size (partQ s k) wr ∧ Below w.heap.size w wr ∧ w.heap.size < wr.heap.size) (fun i _=>s.size - (intOf i).toNat)
 case atStart=>exact ⟨0,Nat.zero_le _,rfl,h1,hb0,hz⟩
 case round =>
  obtain ⟨k,hk,rfl,hB,hBel,hzr⟩:=hrel
  clear h1 hb0 hz
  have hlen:=partQ_len s k hk
  by_cases hlt : k < s.size
  ·have hsn:=Lib.hid (partQ_succ s k hlt)
   have hx1:=fun w=>idx_hex (s[k].toNat / 16) (by have:=s[k].toNat_lt;omega) ((s[k].toNat : Int) / 16) (by simp) w
   have hx2:=fun w=>idx_hex (s[k].toNat % 16) (by omega) ((s[k].toNat : Int) % 16) (by simp) w
   have ha:=and15 s[k]
   have hcl : ((s[k].toNat : Int) == 39) = decide (s[k] = 39):=by
    rw [Bool.eq_iff_iff];simp only [beq_iff_eq,decide_eq_true_eq,← UInt8.toNat_inj]
    show ((s[k].toNat : Int) = 39) ↔ s[k].toNat = 39
    omega
   have hcb : ((s[k].toNat : Int) == 92) = (s[k] == 92):=by
    rw [Bool.eq_iff_iff];simp only [beq_iff_eq,← UInt8.toNat_inj]
    show ((s[k].toNat : Int) = 92) ↔ s[k].toNat = 92
    omega
   have hu:=s[k].toNat_lt
   have hi1 : IntKind.i64.wrap ((k : Int) + 1) = (k : Int) + 1:=IntWalk.i64_in _ (by omega)
   by_cases h39 : s[k] = 39
   ·have hd : ((s[k].toNat : Int) == 39) = true:=by rw [hcl];simp [h39]
    have he : escL s[k] = [39,39]:=by unfold escL;rw [if_pos h39]
    go_wp2_with (first | (go_at_call 61;refine (writeString_c w.heap.size w.heap.size _ ⟨#[39,39]⟩ _ hB (by show _ + 2 ≤ _;omega) (by omega)).mono ?_;rintro e w' ⟨rfl,hB2,hb2⟩))
    go_roundw
    case rel=>exact ⟨k + 1,by omega,by go_num,by rw [hsn.out,he];exact hB2,hBel.trans hb2,by have:=hb2.size;omega⟩
    case measure=>simp [intOf];omega
   ·have hd : ((s[k].toNat : Int) == 39) = false:=by rw [hcl];simp [h39]
    by_cases hodd : oddB s[k] = true
    ·have he : escL s[k] = [92,120,hexD (s[k].toNat / 16),hexD (s[k].toNat % 16)]:=by unfold escL;rw [if_neg h39,if_pos hodd]
     have key : (decide ((s[k].toNat : Int) < 32) = true) ∨ (decide ((s[k].toNat : Int) < 32) = false ∧ decide (126 < (s[k].toNat : Int)) = true) ∨ (decide ((s[k].toNat : Int) < 32) = false ∧ decide (126 < (s[k].toNat : Int)) = false ∧ ((s[k].toNat : Int) == 92) = true):=by
      simp only [oddB,Bool.or_eq_true,decide_eq_true_eq] at hodd
      rw [hcb]
      simp only [decide_eq_true_eq,decide_eq_false_iff_not]
      rcases hodd with (h | h) | h
      ·left;omega
      ·right;left;omega
      ·by_cases h1 : s[k].toNat < 32
       ·left;omega
       ·by_cases h2 : 126 < s[k].toNat
        ·right;left;omega
        ·right;right;exact ⟨by omega,by omega,h⟩
     clear hodd hcb hcl
     rcases key with h1 | ⟨h1,h2⟩ | ⟨h1,h2,h3⟩ <;> go_wp2_with fail
     all_goals (go_still_tail 6,(by kernel_rfl);change wpList _ _ _ _ _ wr.drew)
     all_goals go_wp2_with (first | (go_at_call 58;(refine (write4_c w.heap.size w.heap.size (partQ s k) (hexD (s[k].toNat / 16)) (hexD (s[k].toNat % 16)) wr hB (by omega) (by omega)).mono ?_);rintro e w' ⟨rfl,hB2,hb2⟩))
     all_goals (go_roundw;(exact ⟨k + 1,by omega,by go_num,(by rw [hsn.out,he];exact hB2),hBel.trans hb2,(by have:=hb2.size;omega)⟩);(simp [intOf];omega))
    ·have he : escL s[k] = [s[k]]:=by unfold escL;rw [if_neg h39,if_neg hodd]
     have key : (decide ((s[k].toNat : Int) < 32) = false ∧ decide (126 < (s[k].toNat : Int)) = false ∧ ((s[k].toNat : Int) == 92) = false):=by
      simp only [oddB,Bool.or_eq_true,decide_eq_true_eq,not_or] at hodd
      rw [hcb]
      refine ⟨decide_eq_false (by omega),decide_eq_false (by omega),by simpa using hodd.2⟩
     obtain ⟨h1,h2,h3⟩:=key
     clear hodd hcb hcl
     go_wp2_with (first | (go_at_call 57;refine (writeByte_c w.heap.size w.heap.size _ s[k] _ hB (by omega) (by omega)).mono ?_;rintro e w' ⟨rfl,hB2,hb2⟩))
     go_roundw
     case rel=>exact ⟨k + 1,by omega,by go_num,by rw [hsn.out,he];exact hB2,hBel.trans hb2,by have:=hb2.size;omega⟩
     case measure=>simp [intOf];omega
  ·have hke : k = s.size:=by omega
   subst hke
   go_wp2_with (first | (go_at_call 57;refine (writeByte_c w.heap.size w.heap.size _ 39 _ hB (by omega) (by omega)).mono ?_;rintro e w' ⟨rfl,hB2,hb2⟩) | (go_at_call 63;refine (string_b w.heap.size w.heap.size _ _ hB2 (by have:=hb2.size;omega)).mono ?_;rintro e w'' ⟨rfl,hb3⟩))
   refine bodyPost_ret (v:=.string ⟨(quotedL s.data.toList).toArray⟩) ?_ rfl ⟨rfl,hBel.trans (hb2.trans hb3)⟩
   have hq : partQ s s.size ++ [39] = quotedL s.data.toList:=by
    have : s.data.toList.take s.size = s.data.toList:=List.take_of_length_le (by simp)
    simp only [partQ,quotedL,this,List.cons_append]
   simp [results,Tryz.results97,go_sem,hq]
end Go.Proofs.YthpkjkcfhipjhaaGreatDoor
end
section
namespace Go.Proofs.YthpkjkcfhipjhaaGreatDoor
set_option linter.unusedVariables false
set_option linter.unusedSimpArgs false
section
variable {α : Type} [Inhabited α]
def gx (xs : List α) (i : Nat) : α:=xs.getD i default
def swp (xs : List α) (i j : Nat) : List α:=(xs.set i (gx xs j)).set j (gx xs i)
theorem gx_at (xs : List α) (i : Nat) (h : i < xs.length) : gx xs i = xs[i]:=by unfold gx;simp [h]
theorem gx_swp (xs : List α) (i j : Nat) (hi : i < xs.length) (hj : j < xs.length) (k : Nat) : gx (swp xs i j) k = if k = j then gx xs i else if k = i then gx xs j else gx xs k:=by
 unfold swp
 generalize gx xs j = y
 generalize hx : gx xs i = x
 unfold gx
 rw [List.getD_eq_getElem?_getD,List.getElem?_set]
 by_cases h1 : j = k
 ·subst h1
  simp [hj]
 ·rw [if_neg h1,if_neg (fun e=>h1 e.symm),List.getElem?_set]
  by_cases h2 : i = k
  ·subst h2;simp [hi]
  ·rw [if_neg h2,if_neg (fun e=>h2 e.symm),List.getD_eq_getElem?_getD]
theorem swp_perm (xs : List α) (i j : Nat) (hi : i < xs.length) (hj : j < xs.length) : (swp xs i j).Perm xs:=by
 unfold swp
 rw [gx_at xs i hi,gx_at xs j hj]
 exact List.set_set_perm hi hj
/-- ys is xs with what lies from a to b moved about -/
structure Moved (a b : Nat) (xs ys : List α) : Prop where
 perm : ys.Perm xs
 out : ∀ i,i < a ∨ b ≤ i → gx ys i = gx xs i
 inn : ∀ i,a ≤ i → i < b → ∃ j,a ≤ j ∧ j < b ∧ gx ys i = gx xs j
theorem Moved.len {a b : Nat} {xs ys : List α} (h : Moved a b xs ys) : ys.length = xs.length:=h.perm.length_eq
theorem Moved.refl (a b : Nat) (xs : List α) : Moved a b xs xs:=⟨List.Perm.refl _,fun _ _=>rfl,fun i h1 h2=>⟨i,h1,h2,rfl⟩⟩
theorem Moved.trans {a b : Nat} {xs ys zs : List α} (h : Moved a b xs ys) (k : Moved a b ys zs) : Moved a b xs zs :=
 ⟨k.perm.trans h.perm,fun i hi=>(k.out i hi).trans (h.out i hi),fun i h1 h2=>by
  obtain ⟨j,j1,j2,e⟩:=k.inn i h1 h2
  obtain ⟨l,l1,l2,e'⟩:=h.inn j j1 j2
  exact ⟨l,l1,l2,e.trans e'⟩⟩
theorem Moved.wide {a b a' b' : Nat} {xs ys : List α} (h : Moved a b xs ys) (ha : a' ≤ a) (hb : b ≤ b') : Moved a' b' xs ys :=
 ⟨h.perm,fun i hi=>h.out i (by omega),fun i h1 h2=>by
  by_cases hin : a ≤ i ∧ i < b
  ·obtain ⟨j,j1,j2,e⟩:=h.inn i hin.1 hin.2
   exact ⟨j,by omega,by omega,e⟩
  ·exact ⟨i,h1,h2,h.out i (by omega)⟩⟩
theorem Moved.swap {a b : Nat} (xs : List α) (i j : Nat) (hi : a ≤ i) (hi' : i < b) (hj : a ≤ j) (hj' : j < b) (hb : b ≤ xs.length) : Moved a b xs (swp xs i j):=by
 have e:=gx_swp xs i j (by omega) (by omega)
 refine ⟨swp_perm xs i j (by omega) (by omega),fun k hk=>?_,fun k h1 h2=>?_⟩
 ·rw [e,if_neg (by omega),if_neg (by omega)]
 ·rw [e]
  by_cases h3 : k = j
  ·rw [if_pos h3];exact ⟨i,hi,hi',rfl⟩
  ·rw [if_neg h3]
   by_cases h4 : k = i
   ·rw [if_pos h4];exact ⟨j,hj,hj',rfl⟩
   ·rw [if_neg h4];exact ⟨k,h1,h2,rfl⟩
/-- sorted from a to b -/
def Srt (le : α → α → Prop) (a b : Nat) (xs : List α) : Prop:=∀ i j,a ≤ i → i < j → j < b → le (gx xs i) (gx xs j)
theorem Srt.out {le : α → α → Prop} {a b c d : Nat} {xs ys : List α} (h : Srt le c d xs) (m : Moved a b xs ys) (hd : d ≤ a ∨ b ≤ c) : Srt le c d ys:=fun i j h1 h2 h3=>by
 rw [m.out i (by omega),m.out j (by omega)];exact h i j h1 h2 h3
theorem srt_one (le : α → α → Prop) (a b : Nat) (xs : List α) (h : b ≤ a + 1) : Srt le a b xs:=fun i j h1 h2 h3=>by omega
/-- sorted from a to i, what lies at j left out as the upper one -/
def Ins (le : α → α → Prop) (a i j : Nat) (xs : List α) : Prop:=∀ p q,a ≤ p → p < q → q ≤ i → q ≠ j → le (gx xs p) (gx xs q)
theorem Ins.start {le : α → α → Prop} {a i : Nat} {xs : List α} (h : Srt le a i xs) : Ins le a i i xs:=fun p q h1 h2 h3 h4=>h p q h1 h2 (by omega)
theorem Ins.step {le : α → α → Prop} {a i j : Nat} {xs : List α} (h : Ins le a i (j + 1) xs) (ha : a ≤ j) (hi : j + 1 ≤ i) (hl : i < xs.length) (hle : le (gx xs (j + 1)) (gx xs j)) : Ins le a i j (swp xs (j + 1) j):=by
 have e:=gx_swp xs (j + 1) j (by omega) (by omega)
 intro p q h1 h2 h3 h4
 rw [e,e]
 by_cases q1 : q = j + 1
 ·subst q1
  rw [if_neg h4,if_pos rfl]
  by_cases p1 : p = j
  ·rw [if_pos p1];exact hle
  ·rw [if_neg p1,if_neg (by omega)];exact h p j h1 (by omega) (by omega) (by omega)
 ·rw [if_neg h4,if_neg q1]
  by_cases p1 : p = j
  ·rw [if_pos p1];exact h (j + 1) q (by omega) (by omega) h3 q1
  ·rw [if_neg p1]
   by_cases p2 : p = j + 1
   ·rw [if_pos p2];exact h j q (by omega) (by omega) h3 q1
   ·rw [if_neg p2];exact h p q h1 h2 h3 q1
theorem Ins.done {le : α → α → Prop} (tr : ∀ x y z,le x y → le y z → le x z) {a i j : Nat} {xs : List α} (h : Ins le a i j xs) (hs : j ≤ a ∨ (a < j ∧ le (gx xs (j - 1)) (gx xs j))) : Srt le a (i + 1) xs:=by
 intro p q h1 h2 h3
 by_cases hq : q = j
 ·subst hq
  rcases hs with h4 | ⟨h4,h5⟩
  ·omega
  ·by_cases hp : p = q - 1
   ·rw [hp];exact h5
   ·exact tr _ _ _ (h p (q - 1) h1 (by omega) (by omega) (by omega)) h5
 ·exact h p q h1 h2 (by omega) hq
/-- the first c of the n places from x and from y exchanged -/
def SwR (x y n : Nat) (xs ys : List α) : Prop:=∀ k,gx ys k = if x ≤ k ∧ k < x + n then gx xs (k - x + y) else if y ≤ k ∧ k < y + n then gx xs (k - y + x) else gx xs k
theorem SwR.zero (x y : Nat) (xs : List α) : SwR x y 0 xs xs:=fun k=>by rw [if_neg (by omega),if_neg (by omega)]
theorem SwR.succ {x y n : Nat} {xs ys : List α} (h : SwR x y n xs ys) (hxy : x + n < y) (hl : y + n < ys.length) : SwR x y (n + 1) xs (swp ys (x + n) (y + n)):=by
 have e:=gx_swp ys (x + n) (y + n) (by omega) hl
 intro k
 rw [e,h (x + n),h (y + n),h k]
 rw [if_neg (show ¬ (x ≤ x + n ∧ x + n < x + n) by omega),if_neg (show ¬ (y ≤ x + n ∧ x + n < y + n) by omega),if_neg (show ¬ (x ≤ y + n ∧ y + n < x + n) by omega),if_neg (show ¬ (y ≤ y + n ∧ y + n < y + n) by omega)]
 by_cases k1 : k = y + n
 ·rw [if_pos k1,if_neg (by omega),if_pos (by omega)];congr 1;omega
 ·rw [if_neg k1]
  by_cases k2 : k = x + n
  ·rw [if_pos k2,if_pos (by omega)];congr 1;omega
  ·rw [if_neg k2]
   by_cases k3 : x ≤ k ∧ k < x + n
   ·rw [if_pos k3,if_pos (by omega)]
   ·rw [if_neg k3,if_neg (show ¬ (x ≤ k ∧ k < x + (n + 1)) by omega)]
    by_cases k4 : y ≤ k ∧ k < y + n
    ·rw [if_pos k4,if_pos (by omega)]
    ·rw [if_neg k4,if_neg (show ¬ (y ≤ k ∧ k < y + (n + 1)) by omega)]
/-- ys is xs with what lies from s to m and from m to e changed about -/
def Rot (s m e : Nat) (xs ys : List α) : Prop:=∀ k,gx ys k = if s ≤ k ∧ k < s + (e - m) then gx xs (k - s + m) else if s + (e - m) ≤ k ∧ k < e then gx xs (k - (e - m)) else gx xs k
/-- in the midst of a rotation: i and j places are left on either side of m -/
def RotI (s m e i j : Nat) (xs ys : List α) : Prop:=∀ zs : List α,Rot (m - i) m (m + j) ys zs → Rot s m e xs zs
theorem RotI.start (s m e : Nat) (xs : List α) (h1 : s ≤ m) (h2 : m ≤ e) : RotI s m e (m - s) (e - m) xs xs:=fun zs h=>by
 rw [show m - (m - s) = s by omega,show m + (e - m) = e by omega] at h;exact h
theorem RotI.left {s m e i j : Nat} {xs ys ys' : List α} (h : RotI s m e i j xs ys) (hi : i ≤ m) (hj : j < i) (hs : SwR (m - i) m j ys ys') : RotI s m e (i - j) j xs ys':=fun zs hz=>h zs fun k=>by
 rw [hz k]
 by_cases a1 : m - i ≤ k ∧ k < m - i + (m + j - m)
 ·rw [if_pos a1,if_neg (by omega),if_neg (by omega),hs k,if_pos (by omega)]
 ·rw [if_neg a1]
  by_cases a2 : m - i + (m + j - m) ≤ k ∧ k < m + j
  ·rw [if_pos a2]
   by_cases a3 : m - (i - j) ≤ k ∧ k < m - (i - j) + (m + j - m)
   ·rw [if_pos a3,hs,if_neg (by omega),if_pos (by omega)];congr 1;omega
   ·rw [if_neg a3,if_pos (by omega),hs,if_neg (by omega),if_neg (by omega)]
  ·rw [if_neg a2,if_neg (by omega),if_neg (by omega),hs k,if_neg (by omega),if_neg (by omega)]
theorem RotI.right {s m e i j : Nat} {xs ys ys' : List α} (h : RotI s m e i j xs ys) (hi : i ≤ m) (hj : i < j) (hs : SwR (m - i) (m + j - i) i ys ys') : RotI s m e i (j - i) xs ys':=fun zs hz=>h zs fun k=>by
 rw [hz k]
 by_cases a1 : m - i ≤ k ∧ k < m - i + (m + j - m)
 ·rw [if_pos a1]
  by_cases a3 : m - i ≤ k ∧ k < m - i + (m + (j - i) - m)
  ·rw [if_pos a3,hs,if_neg (by omega),if_neg (by omega)]
  ·rw [if_neg a3,if_pos (by omega),hs,if_pos (by omega)];congr 1;omega
 ·rw [if_neg a1,if_neg (by omega),if_neg (by omega)]
  by_cases a2 : m - i + (m + j - m) ≤ k ∧ k < m + j
  ·rw [if_pos a2,hs,if_neg (by omega),if_pos (by omega)];congr 1;omega
  ·rw [if_neg a2,hs,if_neg (by omega),if_neg (by omega)]
theorem RotI.done {s m e i : Nat} {xs ys ys' : List α} (h : RotI s m e i i xs ys) (hi : i ≤ m) (hs : SwR (m - i) m i ys ys') : Rot s m e xs ys':=h ys' fun k=>by
 rw [hs k]
 by_cases a1 : m - i ≤ k ∧ k < m - i + i
 ·rw [if_pos a1,if_pos (by omega)]
 ·rw [if_neg a1]
  by_cases a2 : m ≤ k ∧ k < m + i
  ·rw [if_pos a2,if_neg (by omega),if_pos (by omega)];congr 1;omega
  ·rw [if_neg a2,if_neg (by omega),if_neg (by omega)]
end
end Go.Proofs.YthpkjkcfhipjhaaGreatDoor
end
section
namespace Go.Proofs.YthpkjkcfhipjhaaGreatDoor
set_option linter.unusedVariables false
set_option linter.unusedSimpArgs false
set_option linter.unusedSectionVars false
section
variable {α : Type} [Inhabited α]
/-- a comparison that is an order (of classes) -/
structure OrdC (cf : α → α → Int) : Prop where
 anti : ∀ x y,cf x y = -(cf y x)
 tr : ∀ x y z,cf x y ≤ 0 → cf y z ≤ 0 → cf x z ≤ 0
abbrev leC (cf : α → α → Int) (x y : α) : Prop:=cf x y ≤ 0
theorem OrdC.le_of {cf : α → α → Int} (h : OrdC cf) {x y : α} (hn : ¬ cf x y < 0) : leC cf y x:=by
 have:=h.anti x y;show cf y x ≤ 0;omega
theorem OrdC.rfl' {cf : α → α → Int} (h : OrdC cf) (x : α) : leC cf x x:=by have:=h.anti x x;show cf x x ≤ 0;omega
/-- a search between s0 and r0 has come to s, r: P holds just below s, not at r -/
structure BS (s0 r0 s r : Nat) (P : Nat → Prop) : Prop where
 h0 : s0 ≤ s
 h1 : s ≤ r
 h2 : r ≤ r0
 lo : s0 < s → P (s - 1)
 hi : r < r0 → ¬ P r
theorem BS.start {s0 r0 : Nat} {P : Nat → Prop} (h : s0 ≤ r0) : BS s0 r0 s0 r0 P:=⟨Nat.le_refl _,h,Nat.le_refl _,fun h=>absurd h (Nat.lt_irrefl _),fun h=>absurd h (Nat.lt_irrefl _)⟩
theorem BS.up {s0 r0 s r c : Nat} {P : Nat → Prop} (h : BS s0 r0 s r P) (hc : s ≤ c) (hc' : c < r) (hp : P c) : BS s0 r0 (c + 1) r P:=⟨by have:=h.h0;omega,by omega,h.h2,fun _=>by rw [Nat.add_sub_cancel];exact hp,h.hi⟩
theorem BS.down {s0 r0 s r c : Nat} {P : Nat → Prop} (h : BS s0 r0 s r P) (hc : s ≤ c) (hc' : c < r) (hp : ¬ P c) : BS s0 r0 s c P:=⟨h.h0,hc,by have:=h.h2;omega,h.lo,fun _=>hp⟩
/-- what lay at a lies at k, what lay between one place lower -/
def UpTo (a k : Nat) (xs ys : List α) : Prop:=∀ p,gx ys p = if a ≤ p ∧ p < k then gx xs (p + 1) else if p = k then gx xs a else gx xs p
theorem UpTo.start (a : Nat) (xs : List α) : UpTo a a xs xs:=fun p=>by
 rw [if_neg (by omega)];split
 ·rename_i h;rw [h]
 ·rfl
theorem UpTo.step {a k : Nat} {xs ys : List α} (h : UpTo a k xs ys) (ha : a ≤ k) (hl : k + 1 < ys.length) : UpTo a (k + 1) xs (swp ys k (k + 1)):=fun p=>by
 rw [gx_swp ys k (k + 1) (by omega) hl,h k,h (k + 1),h p]
 rw [if_neg (show ¬ (a ≤ k ∧ k < k) by omega),if_pos rfl,if_neg (show ¬ (a ≤ k + 1 ∧ k + 1 < k) by omega),if_neg (show ¬ k + 1 = k by omega)]
 by_cases p1 : p = k + 1
 ·rw [if_pos p1,if_neg (by omega),if_pos p1]
 ·rw [if_neg p1]
  by_cases p2 : p = k
  ·rw [if_pos p2,if_pos (by omega),p2]
  ·rw [if_neg p2,if_neg p2,if_neg p1]
   by_cases p3 : a ≤ p ∧ p < k
   ·rw [if_pos p3,if_pos (by omega)]
   ·rw [if_neg p3,if_neg (by omega)]
theorem UpTo.done {cf : α → α → Int} (O : OrdC cf) {a b i : Nat} {xs ys : List α} (hi : a + 1 ≤ i) (hb : i ≤ b) (h : UpTo a (i - 1) xs ys) (hs : Srt (leC cf) (a + 1) b xs)
  (lo : a + 1 < i → cf (gx xs (i - 1)) (gx xs a) < 0) (hi' : i < b → ¬ cf (gx xs i) (gx xs a) < 0) : Srt (leC cf) a b ys:=by
 intro p q h1 h2 h3
 rw [h p,h q]
 by_cases p1 : a ≤ p ∧ p < i - 1
 ·rw [if_pos p1]
  by_cases q1 : a ≤ q ∧ q < i - 1
  ·rw [if_pos q1];exact hs (p + 1) (q + 1) (by omega) (by omega) (by omega)
  ·rw [if_neg q1]
   by_cases q2 : q = i - 1
   ·rw [if_pos q2]
    have e : leC cf (gx xs (i - 1)) (gx xs a):=by have:=lo (by omega);show cf _ _ ≤ 0;omega
    by_cases p2 : p + 1 = i - 1
    ·rw [p2];exact e
    ·exact O.tr _ _ _ (hs (p + 1) (i - 1) (by omega) (by omega) (by omega)) e
   ·rw [if_neg q2];exact hs (p + 1) q (by omega) (by omega) h3
 ·rw [if_neg p1]
  by_cases p2 : p = i - 1
  ·rw [if_pos p2,if_neg (by omega),if_neg (by omega)]
   have e:=O.le_of (hi' (by omega))
   by_cases q2 : q = i
   ·rw [q2];exact e
   ·exact O.tr _ _ _ e (hs i q (by omega) (by omega) h3)
  ·rw [if_neg p2,if_neg (by omega),if_neg (by omega)]
   exact hs p q (by omega) h2 h3
/-- what lay at m lies at k, what lay between one place higher -/
def DownTo (m k : Nat) (xs ys : List α) : Prop:=∀ p,gx ys p = if k < p ∧ p ≤ m then gx xs (p - 1) else if p = k then gx xs m else gx xs p
theorem DownTo.start (m : Nat) (xs : List α) : DownTo m m xs xs:=fun p=>by
 rw [if_neg (by omega)];split
 ·rename_i h;rw [h]
 ·rfl
theorem DownTo.step {m k : Nat} {xs ys : List α} (h : DownTo m (k + 1) xs ys) (hk : k < m) (hl : m < ys.length) : DownTo m k xs (swp ys (k + 1) k):=fun p=>by
 rw [gx_swp ys (k + 1) k (by omega) (by omega),h k,h (k + 1),h p]
 rw [if_neg (show ¬ (k + 1 < k ∧ k ≤ m) by omega),if_neg (show ¬ k = k + 1 by omega),if_neg (show ¬ (k + 1 < k + 1 ∧ k + 1 ≤ m) by omega),if_pos rfl]
 by_cases p1 : p = k
 ·rw [if_pos p1,if_neg (by omega),if_pos p1]
 ·rw [if_neg p1]
  by_cases p2 : p = k + 1
  ·rw [if_pos p2,if_pos (by omega),p2];rfl
  ·rw [if_neg p2,if_neg p2,if_neg p1]
   by_cases p3 : k + 1 < p ∧ p ≤ m
   ·rw [if_pos p3,if_pos (by omega)]
   ·rw [if_neg p3,if_neg (by omega)]
theorem DownTo.done {cf : α → α → Int} (O : OrdC cf) {a m i : Nat} {xs ys : List α} (hi : a ≤ i) (hm : i ≤ m) (h : DownTo m i xs ys) (hs : Srt (leC cf) a m xs)
  (lo : a < i → ¬ cf (gx xs m) (gx xs (i - 1)) < 0) (hi' : i < m → cf (gx xs m) (gx xs i) < 0) : Srt (leC cf) a (m + 1) ys:=by
 intro p q h1 h2 h3
 rw [h p,h q]
 by_cases q1 : i < q ∧ q ≤ m
 ·rw [if_pos q1]
  by_cases p1 : i < p ∧ p ≤ m
  ·rw [if_pos p1];exact hs (p - 1) (q - 1) (by omega) (by omega) (by omega)
  ·rw [if_neg p1]
   by_cases p2 : p = i
   ·rw [if_pos p2]
    have e : leC cf (gx xs m) (gx xs i):=by have:=hi' (by omega);show cf _ _ ≤ 0;omega
    by_cases q2 : q - 1 = i
    ·rw [q2];exact e
    ·exact O.tr _ _ _ e (hs i (q - 1) (by omega) (by omega) (by omega))
   ·rw [if_neg p2];exact hs p (q - 1) h1 (by omega) (by omega)
 ·rw [if_neg q1]
  by_cases q2 : q = i
  ·rw [if_pos q2,if_neg (by omega),if_neg (by omega)]
   have e:=O.le_of (lo (by omega))
   by_cases p2 : p = i - 1
   ·rw [p2];exact e
   ·exact O.tr _ _ _ (hs p (i - 1) h1 (by omega) (by omega)) e
  ·rw [if_neg q2,if_neg (by omega),if_neg (by omega)]
   exact hs p q h1 h2 (by omega)
theorem rot_id (s m e : Nat) (xs : List α) (h1 : s ≤ m) (h2 : m ≤ e) (h : s = m ∨ m = e) : Rot s m e xs xs:=fun k=>by
 rcases h with h | h
 ·by_cases c : s ≤ k ∧ k < s + (e - m)
  ·rw [if_pos c];congr 1;omega
  ·rw [if_neg c,if_neg (by omega)]
 ·rw [if_neg (by omega)]
  by_cases c : s + (e - m) ≤ k ∧ k < e
  ·rw [if_pos c];congr 1;omega
  ·rw [if_neg c]
/-- the search of the merge: s is found between s0 and r0 -/
structure Sym (cf : α → α → Int) (a m b mid s : Nat) (xs : List α) : Prop where
 am : a < m
 mb : m < b
 mid0 : mid = (a + b) / 2
 s0 : a ≤ s
 sm : s ≤ m
 sd : s ≤ mid
 se : m ≤ mid + m - s
 eb : mid + m - s ≤ b
 left : a < s → mid + m - s < b → ¬ cf (gx xs (mid + m - s)) (gx xs (s - 1)) < 0
 right : s < m → s < mid → cf (gx xs (mid + m - s - 1)) (gx xs s) < 0
theorem Sym.of {cf : α → α → Int} {a m b mid s : Nat} {xs : List α} (am : a < m) (mb : m < b) (hmid : mid = (a + b) / 2)
  (h : BS (if m > mid then mid + m - b else a) (if m > mid then mid else m) s s (fun c=>¬ cf (gx xs (mid + m - 1 - c)) (gx xs c) < 0)) : Sym cf a m b mid s xs:=by
 obtain ⟨h0,h1,h2,lo,hi⟩:=h
 by_cases hm : m > mid
 ·rw [if_pos hm] at h0 lo hi h2
  refine ⟨am,mb,hmid,by omega,by omega,by omega,by omega,by omega,fun h3 h4=>?_,fun h3 h4=>?_⟩
  ·have:=lo (by omega)
   rwa [show mid + m - 1 - (s - 1) = mid + m - s by omega] at this
  ·have:=hi (by omega)
   rw [show mid + m - 1 - s = mid + m - s - 1 by omega] at this
   exact Decidable.of_not_not this
 ·rw [if_neg hm] at h0 lo hi h2
  refine ⟨am,mb,hmid,by omega,by omega,by omega,by omega,by omega,fun h3 h4=>?_,fun h3 h4=>?_⟩
  ·have:=lo (by omega)
   rwa [show mid + m - 1 - (s - 1) = mid + m - s by omega] at this
  ·have:=hi (by omega)
   rw [show mid + m - 1 - s = mid + m - s - 1 by omega] at this
   exact Decidable.of_not_not this
section
variable {cf : α → α → Int} {a m b mid s : Nat} {xs ys : List α}
theorem Sym.low (S : Sym cf a m b mid s xs) (h1 : Srt (leC cf) a m xs) (hr : Rot s m (mid + m - s) xs ys) : Srt (leC cf) a s ys:=fun p q a1 a2 a3=>by
 have:=S.sm
 rw [hr p,hr q,if_neg (by omega),if_neg (by omega),if_neg (by omega),if_neg (by omega)]
 exact h1 p q a1 a2 (by omega)
theorem Sym.mid1 (S : Sym cf a m b mid s xs) (h2 : Srt (leC cf) m b xs) (hr : Rot s m (mid + m - s) xs ys) : Srt (leC cf) s mid ys:=fun p q a1 a2 a3=>by
 have:=S.se;have:=S.eb;have:=S.sd
 rw [hr p,hr q,if_pos (by omega),if_pos (by omega)]
 exact h2 _ _ (by omega) (by omega) (by omega)
theorem Sym.mid2 (S : Sym cf a m b mid s xs) (h1 : Srt (leC cf) a m xs) (hr : Rot s m (mid + m - s) xs ys) : Srt (leC cf) mid (mid + m - s) ys:=fun p q a1 a2 a3=>by
 have:=S.se;have:=S.eb;have:=S.sd;have:=S.s0
 rw [hr p,hr q,if_neg (by omega),if_pos (by omega),if_neg (by omega),if_pos (by omega)]
 exact h1 _ _ (by omega) (by omega) (by omega)
theorem Sym.high (S : Sym cf a m b mid s xs) (h2 : Srt (leC cf) m b xs) (hr : Rot s m (mid + m - s) xs ys) : Srt (leC cf) (mid + m - s) b ys:=fun p q a1 a2 a3=>by
 have:=S.se;have:=S.sd;have:=S.sm
 rw [hr p,hr q,if_neg (by omega),if_neg (by omega),if_neg (by omega),if_neg (by omega)]
 exact h2 p q (by omega) a2 a3
theorem Sym.cross (O : OrdC cf) (S : Sym cf a m b mid s xs) (h1 : Srt (leC cf) a m xs) (h2 : Srt (leC cf) m b xs) (hr : Rot s m (mid + m - s) xs ys) :
  ∀ p q,a ≤ p → p < mid → mid ≤ q → q < b → leC cf (gx ys p) (gx ys q):=by
 obtain ⟨am,mb,e0,s0,sm,sd,se,eb,left,right⟩:=S
 have le1 : ∀ p q,a ≤ p → p ≤ q → q < m → leC cf (gx xs p) (gx xs q):=fun p q c1 c2 c3=>by
  by_cases h : p = q
  ·rw [h];exact O.rfl' _
  ·exact h1 p q c1 (by omega) c3
 have le2 : ∀ p q,m ≤ p → p ≤ q → q < b → leC cf (gx xs p) (gx xs q):=fun p q c1 c2 c3=>by
  by_cases h : p = q
  ·rw [h];exact O.rfl' _
  ·exact h2 p q c1 (by omega) c3
 intro p q c1 c2 c3 c4
 rw [hr p,hr q]
 by_cases p1 : s ≤ p
 ·-- p comes from the right part
  rw [if_pos (by omega),if_neg (by omega)]
  by_cases q1 : q < mid + m - s
  ·rw [if_pos (by omega)]
   have r:=right (by omega) (by omega)
   have r' : leC cf (gx xs (mid + m - s - 1)) (gx xs s):=by show cf _ _ ≤ 0;omega
   exact O.tr _ _ _ (le2 _ _ (by omega) (by omega) (by omega)) (O.tr _ _ _ r' (le1 _ _ (by omega) (by omega) (by omega)))
  ·rw [if_neg (by omega)]
   exact le2 _ _ (by omega) (by omega) c4
 ·rw [if_neg (by omega),if_neg (by omega),if_neg (by omega)]
  by_cases q1 : q < mid + m - s
  ·rw [if_pos (by omega)]
   exact le1 _ _ c1 (by omega) (by omega)
  ·rw [if_neg (by omega)]
   have l:=O.le_of (left (by omega) (by omega))
   exact O.tr _ _ _ (le1 _ _ c1 (show p ≤ s - 1 by omega) (by omega)) (O.tr _ _ _ l (le2 _ _ (by omega) (by omega) c4))
theorem cross_done {zs ws : List α} (hc : ∀ p q,a ≤ p → p < mid → mid ≤ q → q < b → leC cf (gx ys p) (gx ys q)) (hm : a ≤ mid ∧ mid ≤ b)
  (m1 : Moved a mid ys zs) (s1 : Srt (leC cf) a mid zs) (m2 : Moved mid b zs ws) (s2 : Srt (leC cf) mid b ws) : Srt (leC cf) a b ws:=by
 intro p q c1 c2 c3
 by_cases hq : q < mid
 ·rw [m2.out p (by omega),m2.out q (by omega)]
  exact s1 p q c1 c2 hq
 ·by_cases hp : mid ≤ p
  ·exact s2 p q hp c2 c3
  ·obtain ⟨j,j1,j2,e⟩:=m2.inn q (by omega) c3
   rw [m2.out p (by omega),e,m1.out j (by omega)]
   obtain ⟨i,i1,i2,e'⟩:=m1.inn p c1 (by omega)
   rw [e']
   exact hc i j i1 i2 j1 j2
/-- the two halves merged: the whole is -/
theorem sym_fin {zs ws : List α} (O : OrdC cf) (S : Sym cf a m b mid s xs) (h1 : Srt (leC cf) a m xs) (h2 : Srt (leC cf) m b xs) (hr : Rot s m (mid + m - s) xs ys) (hm : Moved a b xs ys)
  (m1 : Moved a mid ys zs) (s1 : Srt (leC cf) a mid zs) (m2 : Moved mid b zs ws) (s2 : Srt (leC cf) mid b ws) : Srt (leC cf) a b ws ∧ Moved a b xs ws:=by
 have e0:=S.mid0;have:=S.am;have:=S.mb
 exact ⟨cross_done (S.cross O h1 h2 hr) (by omega) m1 s1 m2 s2,(hm.trans (m1.wide (by omega) (by omega))).trans (m2.wide (by omega) (by omega))⟩
theorem sym_first (S : Sym cf a m b mid s xs) (h1 : Srt (leC cf) a m xs) (h2 : Srt (leC cf) m b xs) (hr : Rot s m (mid + m - s) xs ys) (h : ¬ a < s ∨ ¬ s < mid) : Srt (leC cf) a mid ys:=by
 have:=S.s0;have:=S.sd
 rcases h with h | h
 ·have:=S.mid1 h2 hr;rwa [show s = a by omega] at this
 ·have:=S.low h1 hr;rwa [show s = mid by omega] at this
theorem sym_second {zs : List α} (S : Sym cf a m b mid s xs) (h1 : Srt (leC cf) a m xs) (h2 : Srt (leC cf) m b xs) (hr : Rot s m (mid + m - s) xs ys) (m1 : Moved a mid ys zs) (h : ¬ mid < mid + m - s ∨ ¬ mid + m - s < b) : Srt (leC cf) mid b zs:=by
 have:=S.sm;have:=S.eb;have:=S.sd
 refine Srt.out ?_ m1 (.inr (Nat.le_refl _))
 rcases h with h | h
 ·have:=S.high h2 hr;rwa [show mid + m - s = mid by omega] at this
 ·have:=S.mid2 h1 hr;rwa [show mid + m - s = b by omega] at this
theorem sym_norot (S : Sym cf a m b mid s xs) (h : ¬ s < m ∨ ¬ m < mid + m - s) : Rot s m (mid + m - s) xs xs:=by
 have:=S.sm;have:=S.se;have:=S.sd
 exact rot_id s m _ xs (by omega) (by omega) (by omega)
end
/-- sorted within each block of n places, from lo up to hi -/
def Blks (le : α → α → Prop) (n lo hi : Nat) (xs : List α) : Prop:=∀ i j,lo ≤ i → i < j → j < hi → i / n = j / n → le (gx xs i) (gx xs j)
theorem Blks.whole {le : α → α → Prop} {n hi : Nat} {xs : List α} (h : Blks le n 0 hi xs) (hn : hi ≤ n) : Srt le 0 hi xs:=fun i j h1 h2 h3=>h i j h1 h2 h3 (by rw [Nat.div_eq_of_lt (by omega),Nat.div_eq_of_lt (by omega)])
theorem zblk_ge {n q i : Nat} (hn : 0 < n) (h : q * n ≤ i) : q ≤ i / n:=(Nat.le_div_iff_mul_le hn).2 h
theorem zblk_lt {n q i : Nat} (hn : 0 < n) (h : i < (q + 1) * n) : i / n ≤ q:=Nat.lt_succ_iff.1 ((Nat.div_lt_iff_lt_mul hn).2 h)
theorem Blks.srt {le : α → α → Prop} {n q hi hi' lo : Nat} {xs : List α} (hn : 0 < n) (h : Blks le n lo hi xs) (hl : lo ≤ q * n) (h1 : hi' ≤ hi) (h2 : hi' ≤ (q + 1) * n) : Srt le (q * n) hi' xs:=fun i j c1 c2 c3=>by
 have e1:=zblk_ge hn c1
 have e2:=zblk_lt (i:=i) hn (show i < (q + 1) * n by omega)
 have e3:=zblk_ge (i:=j) hn (show q * n ≤ j by omega)
 have e4:=zblk_lt (i:=j) hn (show j < (q + 1) * n by omega)
 exact h i j (by omega) c2 (by omega) (by omega)
/-- a block more -/
theorem Blks.snoc {le : α → α → Prop} {n q hi : Nat} {xs ys : List α} (hn : 0 < n) (h : Blks le n 0 (q * n) xs) (hs : Srt le (q * n) hi ys) (m : Moved (q * n) hi xs ys) : Blks le n 0 hi ys:=fun i j c1 c2 c3 c4=>by
 by_cases hj : j < q * n
 ·rw [m.out i (by omega),m.out j (by omega)];exact h i j c1 c2 hj c4
 ·by_cases hi' : q * n ≤ i
  ·exact hs i j hi' c2 c3
  ·have e1 : i / n < q:=(Nat.div_lt_iff_lt_mul hn).2 (by omega)
   have e2:=zblk_ge (i:=j) hn (show q * n ≤ j by omega)
   omega
theorem Blks.rest {le : α → α → Prop} {n lo lo' hi hi' : Nat} {xs ys : List α} (h : Blks le n lo hi xs) (hl : lo ≤ lo') (m : Moved lo hi' xs ys) (hh : hi' ≤ lo') : Blks le n lo' hi ys:=fun i j c1 c2 c3 c4=>by
 rw [m.out i (by omega),m.out j (by omega)];exact h i j (by omega) c2 c3 c4
end
end Go.Proofs.YthpkjkcfhipjhaaGreatDoor
end
section
namespace Go.Proofs.YthpkjkcfhipjhaaGreatDoor
set_option linter.unusedVariables false
set_option linter.unusedSimpArgs false
section
variable {α : Type} (cf : α → α → Int)
def lePair (x y : α × Int) : Bool:=decide (cf x.1 y.1 ≤ 0)
/-- the same row -/
def eqR (x y : α) : Bool:=decide (cf x y = 0)
/-- the weight of a row in a list of entries -/
def wt (l : List (α × Int)) (r : α) : Int:=(l.map fun y=>if eqR cf r y.1 then y.2 else 0).sum
/-- whether a row is there -/
def has (l : List (α × Int)) (r : α) : Bool:=l.any fun y=>eqR cf r y.1
/-- groups of the same row, one behind the other, with their sums -/
def grp : List (α × Int) → List (α × Int)
 | []=>[]
 | x :: t=>(x.1,x.2 + ((t.takeWhile fun y=>eqR cf x.1 y.1).map (·.2)).sum) :: grp (t.dropWhile fun y=>eqR cf x.1 y.1)
termination_by l=>l.length
decreasing_by
 have:=(List.dropWhile_sublist (l:=t) (fun y=>eqR cf x.1 y.1)).length_le
 simp;omega
theorem wt_nil (r : α) : wt cf [] r = 0:=rfl
theorem wt_cons (x : α × Int) (t : List (α × Int)) (r : α) : wt cf (x :: t) r = (if eqR cf r x.1 then x.2 else 0) + wt cf t r:=by simp [wt]
theorem wt_app (a b : List (α × Int)) (r : α) : wt cf (a ++ b) r = wt cf a r + wt cf b r:=by simp [wt]
theorem has_cons (x : α × Int) (t : List (α × Int)) (r : α) : has cf (x :: t) r = (eqR cf r x.1 || has cf t r):=by simp [has]
theorem wt_perm {a b : List (α × Int)} (h : a.Perm b) (r : α) : wt cf a r = wt cf b r:=by
 unfold wt
 induction h with
 | nil=>rfl
 | cons x _ ih=>simp only [List.map_cons,List.sum_cons,ih]
 | swap x y l=>simp only [List.map_cons,List.sum_cons];omega
 | trans _ _ i1 i2=>rw [i1,i2]
theorem has_perm {a b : List (α × Int)} (h : a.Perm b) (r : α) : has cf a r = has cf b r:=h.any_eq
theorem has_iff (l : List (α × Int)) (r : α) : has cf l r = true ↔ ∃ y ∈ l,cf r y.1 = 0:=by simp [has,eqR]
theorem wt_none (t : List (α × Int)) (r : α) (h : has cf t r = false) : wt cf t r = 0:=by
 induction t with
 | nil=>rfl
 | cons y t ih =>
  rw [has_cons,Bool.or_eq_false_iff] at h
  rw [wt_cons,h.1,ih h.2];rfl
variable {cf}
theorem OrdC.eq_symm (O : OrdC cf) {x y : α} (h : cf x y = 0) : cf y x = 0:=by have:=O.anti x y;omega
theorem OrdC.lt_tr (O : OrdC cf) {x y z : α} (h : cf x y < 0) (k : cf y z ≤ 0) : cf x z < 0:=by
 have h1:=O.tr x y z (by omega) k
 have h2:=O.anti x z
 by_cases h3 : cf x z = 0
 ·have h4:=O.tr y z x k (by omega)
  have h5:=O.anti x y
  omega
 ·omega
theorem OrdC.eq_tr (O : OrdC cf) {x y z : α} (h : cf x y = 0) (k : cf y z = 0) : cf x z = 0:=by
 have h1:=O.tr x y z (by omega) (by omega)
 have h2:=O.tr z y x (by have:=O.anti z y;omega) (by have:=O.anti y x;omega)
 have h3:=O.anti x z
 omega
theorem eqR_cong (O : OrdC cf) {x y : α} (h : cf x y = 0) (r : α) : eqR cf x r = eqR cf y r:=by
 unfold eqR
 rw [Bool.eq_iff_iff,decide_eq_true_iff,decide_eq_true_iff]
 exact ⟨fun k=>O.eq_tr (O.eq_symm h) k,fun k=>O.eq_tr h k⟩
theorem eqR_cong' (O : OrdC cf) {x y : α} (h : cf x y = 0) (r : α) : eqR cf r x = eqR cf r y:=by
 unfold eqR
 rw [Bool.eq_iff_iff,decide_eq_true_iff,decide_eq_true_iff]
 exact ⟨fun k=>O.eq_tr k h,fun k=>O.eq_tr k (O.eq_symm h)⟩
theorem wt_cong (O : OrdC cf) {x y : α} (h : cf x y = 0) (l : List (α × Int)) : wt cf l x = wt cf l y:=by
 unfold wt
 congr 1
 apply List.map_congr_left
 intro z _
 rw [eqR_cong O h]
theorem has_cong (O : OrdC cf) {x y : α} (h : cf x y = 0) (l : List (α × Int)) : has cf l x = has cf l y:=by
 unfold has
 congr 1
 funext z
 rw [eqR_cong O h]
/-- rows in order, the same beside each other -/
abbrev SrtL (cf : α → α → Int) (l : List (α × Int)) : Prop:=l.Pairwise fun x y=>cf x.1 y.1 ≤ 0
/-- rows in order, each once -/
abbrev Zst (cf : α → α → Int) (l : List (α × Int)) : Prop:=l.Pairwise fun x y=>cf x.1 y.1 < 0
theorem Zst.notHead {x : α × Int} {t : List (α × Int)} (h : Zst cf (x :: t)) : has cf t x.1 = false:=by
 have h:=List.pairwise_cons.1 h
 rw [Bool.eq_false_iff]
 intro k
 obtain ⟨y,hy,e⟩:=(has_iff cf _ _).1 k
 have:=h.1 y hy
 omega
theorem Zst.wt_mem (O : OrdC cf) : ∀ {l : List (α × Int)},Zst cf l → ∀ x ∈ l,wt cf l x.1 = x.2
 | [],_,x,hx=>absurd hx List.not_mem_nil
 | y :: t,h,x,hx=>by
  rw [wt_cons]
  have h2:=(List.pairwise_cons.1 h)
  rcases List.mem_cons.1 hx with rfl | hx
  ·rw [wt_none cf _ _ h.notHead]
   have : eqR cf x.1 x.1 = true:=decide_eq_true (by have:=O.anti x.1 x.1;omega)
   rw [this];simp
  ·have h3:=h2.1 x hx
   have : eqR cf x.1 y.1 = false:=decide_eq_false (by have:=O.anti x.1 y.1;omega)
   rw [this,Zst.wt_mem O h2.2 x hx];simp
/-- two such lists of the same rows and weights are one -/
theorem zst_ext (O : OrdC cf) (ok : α → Bool) (same : ∀ x y,ok x = true → ok y = true → cf x y = 0 → x = y) : ∀ (a b : List (α × Int)),Zst cf a → Zst cf b → (∀ x ∈ a,ok x.1 = true) → (∀ x ∈ b,ok x.1 = true) →
  (∀ r,has cf a r = has cf b r) → (∀ r,wt cf a r = wt cf b r) → a = b
 | [],[],_,_,_,_,_,_=>rfl
 | [],y :: t,_,_,_,_,hh,_=>by
  have:=hh y.1
  rw [has_cons,show eqR cf y.1 y.1 = true from decide_eq_true (by have:=O.anti y.1 y.1;omega)] at this
  cases this
 | x :: s,[],_,_,_,_,hh,_=>by
  have:=hh x.1
  rw [has_cons,show eqR cf x.1 x.1 = true from decide_eq_true (by have:=O.anti x.1 x.1;omega)] at this
  cases this
 | x :: s,y :: t,ha,hb,oa,ob,hh,hw=>by
  have ha2:=List.pairwise_cons.1 ha
  have hb2:=List.pairwise_cons.1 hb
  have e : cf x.1 y.1 = 0:=by
   have h1:=hh x.1
   have h2:=hh y.1
   rw [has_cons,show eqR cf x.1 x.1 = true from decide_eq_true (by have:=O.anti x.1 x.1;omega),Bool.true_or] at h1
   rw [has_cons (x:=y),show eqR cf y.1 y.1 = true from decide_eq_true (by have:=O.anti y.1 y.1;omega),Bool.true_or] at h2
   obtain ⟨u,hu,eu⟩:=(has_iff cf _ _).1 h1.symm
   obtain ⟨v,hv,ev⟩:=(has_iff cf _ _).1 h2
   have k1 : cf y.1 x.1 ≤ 0:=by
    rcases List.mem_cons.1 hu with rfl | hu
    ·have:=O.anti x.1 u.1;omega
    ·have h3:=hb2.1 u hu
     have:=O.lt_tr h3 (by have:=O.anti x.1 u.1;omega : cf u.1 x.1 ≤ 0)
     omega
   have k2 : cf x.1 y.1 ≤ 0:=by
    rcases List.mem_cons.1 hv with rfl | hv
    ·have:=O.anti y.1 v.1;omega
    ·have h3:=ha2.1 v hv
     have:=O.lt_tr h3 (by have:=O.anti y.1 v.1;omega : cf v.1 y.1 ≤ 0)
     omega
   have:=O.anti x.1 y.1
   omega
  have e1:=same _ _ (oa x List.mem_cons_self) (ob y List.mem_cons_self) e
  have e2 : x.2 = y.2:=by
   have h1:=ha.wt_mem O x List.mem_cons_self
   have h2:=hb.wt_mem O y List.mem_cons_self
   rw [← h1,← h2,hw,e1]
  have e3 : x = y:=Prod.ext e1 e2
  subst e3
  congr 1
  refine zst_ext O ok same s t ha2.2 hb2.2 (fun z hz=>oa z (List.mem_cons_of_mem _ hz)) (fun z hz=>ob z (List.mem_cons_of_mem _ hz)) (fun r=>?_) (fun r=>?_)
  ·have h1:=hh r
   rw [has_cons,has_cons] at h1
   by_cases hr : cf r x.1 = 0
   ·rw [has_cong O hr,has_cong O hr,ha.notHead,hb.notHead]
   ·rw [show eqR cf r x.1 = false from decide_eq_false hr,Bool.false_or,Bool.false_or] at h1
    exact h1
  ·have h1:=hw r
   rw [wt_cons,wt_cons] at h1
   omega
theorem zst_has (O : OrdC cf) {a : List (α × Int)} (h : Zst cf a) (nz : ∀ x ∈ a,x.2 ≠ 0) (r : α) : has cf a r = decide (wt cf a r ≠ 0):=by
 cases hh : has cf a r
 ·rw [wt_none cf a r hh];simp
 ·obtain ⟨y,hy,e⟩:=(has_iff cf _ _).1 hh
  rw [wt_cong O e,h.wt_mem O y hy]
  exact (decide_eq_true (nz y hy)).symm
/-- multisets with the same weights are one -/
theorem z_ext (O : OrdC cf) (ok : α → Bool) (same : ∀ x y,ok x = true → ok y = true → cf x y = 0 → x = y) (a b : List (α × Int)) (ha : Zst cf a) (hb : Zst cf b) (oa : ∀ x ∈ a,ok x.1 = true) (ob : ∀ x ∈ b,ok x.1 = true)
  (na : ∀ x ∈ a,x.2 ≠ 0) (nb : ∀ x ∈ b,x.2 ≠ 0) (hw : ∀ r,wt cf a r = wt cf b r) : a = b :=
 zst_ext O ok same a b ha hb oa ob (fun r=>by rw [zst_has O ha na,zst_has O hb nb,hw]) hw
theorem srt_split (O : OrdC cf) {x : α × Int} {t : List (α × Int)} (h : SrtL cf (x :: t)) : ∀ y ∈ t.dropWhile (fun y=>eqR cf x.1 y.1),cf x.1 y.1 < 0:=by
 have h1:=List.pairwise_cons.1 h
 have hsub:=List.dropWhile_sublist (l:=t) (fun y=>eqR cf x.1 y.1)
 intro y hy
 cases hd : t.dropWhile (fun y=>eqR cf x.1 y.1) with
 | nil=>rw [hd] at hy;cases hy
 | cons z u =>
  have hz : eqR cf x.1 z.1 = false:=by
   have:=List.head?_dropWhile_not (fun y : α × Int=>eqR cf x.1 y.1) t
   rw [hd] at this
   simpa using this
  have hzm : z ∈ t:=hsub.subset (by rw [hd];exact List.mem_cons_self)
  have hlt : cf x.1 z.1 < 0:=by
   have h2:=h1.1 z hzm
   have h3 : ¬ cf x.1 z.1 = 0:=of_decide_eq_false hz
   omega
  rw [hd] at hy
  rcases List.mem_cons.1 hy with rfl | hy
  ·exact hlt
  ·have h4 : SrtL cf (t.dropWhile fun y=>eqR cf x.1 y.1):=h1.2.sublist hsub
   rw [hd] at h4
   exact O.lt_tr hlt ((List.pairwise_cons.1 h4).1 y hy)
theorem tw_sum (O : OrdC cf) (x : α × Int) (t : List (α × Int)) (r : α) : wt cf (t.takeWhile fun y=>eqR cf x.1 y.1) r = if eqR cf r x.1 then ((t.takeWhile fun y=>eqR cf x.1 y.1).map (·.2)).sum else 0:=by
 have key : ∀ y ∈ t.takeWhile (fun y=>eqR cf x.1 y.1),eqR cf r y.1 = eqR cf r x.1:=fun y hy=>by
  have h1 : eqR cf x.1 y.1 = true:=List.all_eq_true.1 (List.all_takeWhile) y hy
  exact (eqR_cong' O (of_decide_eq_true h1) r).symm
 generalize t.takeWhile (fun y=>eqR cf x.1 y.1) = u at key
 induction u with
 | nil=>simp [wt]
 | cons y u ih =>
  rw [wt_cons,key y List.mem_cons_self,ih fun z hz=>key z (List.mem_cons_of_mem _ hz)]
  split <;> simp
theorem grp_nil : grp cf ([] : List (α × Int)) = []:=by rw [grp]
theorem grp_cons (x : α × Int) (t : List (α × Int)) : grp cf (x :: t) = (x.1,x.2 + ((t.takeWhile fun y=>eqR cf x.1 y.1).map (·.2)).sum) :: grp cf (t.dropWhile fun y=>eqR cf x.1 y.1):=by rw [grp]
theorem grp_all (O : OrdC cf) : ∀ (k : Nat) (l : List (α × Int)),l.length ≤ k → SrtL cf l → Zst cf (grp cf l) ∧ (∀ x ∈ grp cf l,∃ y ∈ l,x.1 = y.1) ∧ (∀ r,has cf (grp cf l) r = has cf l r) ∧ (∀ r,wt cf (grp cf l) r = wt cf l r)
 | _,[],_,_=>by rw [grp_nil];exact ⟨List.Pairwise.nil,fun x hx=>absurd hx List.not_mem_nil,fun _=>rfl,fun _=>rfl⟩
 | 0,x :: t,hk,_=>by simp at hk
 | k + 1,x :: t,hk,hs=>by
  have hsub:=List.dropWhile_sublist (l:=t) (fun y=>eqR cf x.1 y.1)
  have hlt:=srt_split O hs
  have hs2:=(List.pairwise_cons.1 hs).2
  obtain ⟨i1,i2,i3,i4⟩:=grp_all O k (t.dropWhile fun y=>eqR cf x.1 y.1) (by have:=hsub.length_le;simp at hk;omega) (hs2.sublist hsub)
  rw [grp_cons]
  refine ⟨List.pairwise_cons.2 ⟨fun y hy=>?_,i1⟩,fun y hy=>?_,fun r=>?_,fun r=>?_⟩
  ·obtain ⟨z,hz,e⟩:=i2 y hy
   rw [e];exact hlt z hz
  ·rcases List.mem_cons.1 hy with rfl | hy
   ·exact ⟨x,List.mem_cons_self,rfl⟩
   ·obtain ⟨z,hz,e⟩:=i2 y hy
    exact ⟨z,List.mem_cons_of_mem _ (hsub.subset hz),e⟩
  ·rw [has_cons,has_cons,i3]
   show (eqR cf r x.1 || _) = _
   by_cases hr : eqR cf r x.1 = true
   ·rw [hr];simp
   ·have hr' : eqR cf r x.1 = false:=by simpa using hr
    rw [hr',Bool.false_or,Bool.false_or]
    conv=>rhs;rw [← List.takeWhile_append_dropWhile (p:=fun y : α × Int=>eqR cf x.1 y.1) (l:=t)]
    unfold has
    rw [List.any_append]
    have : (t.takeWhile fun y=>eqR cf x.1 y.1).any (fun y=>eqR cf r y.1) = false:=by
     rw [List.any_eq_false]
     intro y hy
     have h1 : eqR cf x.1 y.1 = true:=List.all_eq_true.1 (List.all_takeWhile) y hy
     rw [← eqR_cong' O (of_decide_eq_true h1) r,hr'];simp
    rw [this,Bool.false_or]
  ·rw [wt_cons,wt_cons,i4]
   conv=>rhs;rw [← List.takeWhile_append_dropWhile (p:=fun y : α × Int=>eqR cf x.1 y.1) (l:=t)]
   rw [wt_app,tw_sum O x t r]
   show (if eqR cf r x.1 then _ else _) + _ = _
   split <;> omega
theorem sort_srt (O : OrdC cf) (l : List (α × Int)) : SrtL cf (l.mergeSort (lePair cf)):=by
 have h:=List.pairwise_mergeSort (le:=lePair cf) (fun a b c h1 h2=>decide_eq_true (O.tr _ _ _ (of_decide_eq_true h1) (of_decide_eq_true h2)))
  (fun a b=>by unfold lePair;rw [← Bool.decide_or];exact decide_eq_true (by have:=O.anti a.1 b.1;omega)) l
 exact h.imp fun h=>of_decide_eq_true h
/-- the rows with their sums, in order -/
def sums (cf : α → α → Int) (l : List (α × Int)) : List (α × Int):=grp cf (l.mergeSort (lePair cf))
theorem sums_zst (O : OrdC cf) (l : List (α × Int)) : Zst cf (sums cf l):=(grp_all O _ _ (Nat.le_refl _) (sort_srt O l)).1
theorem sums_rows (O : OrdC cf) (l : List (α × Int)) : ∀ x ∈ sums cf l,∃ y ∈ l,x.1 = y.1:=fun x hx=>by
 obtain ⟨y,hy,e⟩:=(grp_all O _ _ (Nat.le_refl _) (sort_srt O l)).2.1 x hx
 exact ⟨y,(List.mergeSort_perm _ _).mem_iff.1 hy,e⟩
theorem sums_has (O : OrdC cf) (l : List (α × Int)) (r : α) : has cf (sums cf l) r = has cf l r:=by
 rw [← has_perm cf (List.mergeSort_perm l (lePair cf)) r];exact (grp_all O _ _ (Nat.le_refl _) (sort_srt O l)).2.2.1 r
theorem sums_wt (O : OrdC cf) (l : List (α × Int)) (r : α) : wt cf (sums cf l) r = wt cf l r:=by
 rw [← wt_perm cf (List.mergeSort_perm l (lePair cf)) r];exact (grp_all O _ _ (Nat.le_refl _) (sort_srt O l)).2.2.2 r
/-- any sorted order of the entries gives the same groups -/
theorem grp_sums (O : OrdC cf) (ok : α → Bool) (same : ∀ x y,ok x = true → ok y = true → cf x y = 0 → x = y) {l ys : List (α × Int)} (h : ys.Perm l) (hs : SrtL cf ys) (hok : ∀ x ∈ l,ok x.1 = true) : grp cf ys = sums cf l:=by
 obtain ⟨i1,i2,i3,i4⟩:=grp_all O _ ys (Nat.le_refl _) hs
 refine zst_ext O ok same _ _ i1 (sums_zst O l) (fun x hx=>?_) (fun x hx=>?_) (fun r=>?_) (fun r=>?_)
 ·obtain ⟨y,hy,e⟩:=i2 x hx;rw [e];exact hok y (h.mem_iff.1 hy)
 ·obtain ⟨y,hy,e⟩:=sums_rows O l x hx;rw [e];exact hok y hy
 ·rw [i3,sums_has O,has_perm cf h]
 ·rw [i4,sums_wt O,wt_perm cf h]
theorem sums_val (O : OrdC cf) (l : List (α × Int)) : ∀ x ∈ sums cf l,x.2 = wt cf l x.1:=fun x hx=>by
 rw [← sums_wt O,(sums_zst O l).wt_mem O x hx]
/-- rows with weight nought left out -/
def nz (l : List (α × Int)) : List (α × Int):=l.filter fun x=>decide (x.2 ≠ 0)
theorem nz_wt (l : List (α × Int)) (r : α) : wt cf (nz l) r = wt cf l r:=by
 induction l with
 | nil=>rfl
 | cons x t ih =>
  unfold nz at ih ⊢
  rw [List.filter_cons]
  by_cases h : x.2 = 0
  ·rw [if_neg (by simp [h]),ih,wt_cons,h];simp
  ·rw [if_pos (by simp [h]),wt_cons,wt_cons,ih]
theorem nz_zst {l : List (α × Int)} (h : Zst cf l) : Zst cf (nz l):=h.sublist List.filter_sublist
theorem nz_mem {l : List (α × Int)} {x : α × Int} (h : x ∈ nz l) : x ∈ l ∧ x.2 ≠ 0:=by
 unfold nz at h
 rw [List.mem_filter] at h
 exact ⟨h.1,of_decide_eq_true h.2⟩
end
end Go.Proofs.YthpkjkcfhipjhaaGreatDoor
end
section
namespace Go.Proofs.YthpkjkcfhipjhaaGreatDoor
set_option linter.unusedVariables false
set_option linter.unusedSimpArgs false
open Go.RowKit
theorem sgnW : Ieee.double.signWeight = 9223372036854775808:=by decide
theorem binW : Ieee.double.binade = 4503599627370496:=by decide
theorem infW : Ieee.double.infRung = 9218868437227405312:=by decide
theorem fNaN_iff (b : Int) : fNaN b = decide (9218868437227405312 < b.toNat % 9223372036854775808):=by
 unfold fNaN
 show (Ieee.Datum.order (Ieee.double.read b.toNat) (Ieee.double.read b.toNat) != some .eq) = _
 unfold Ieee.Format.read
 simp only [sgnW,binW,infW]
 generalize b.toNat % 9223372036854775808 = r
 generalize (b.toNat / 9223372036854775808 % 2 == 1) = s
 by_cases h1 : r < 4503599627370496
 ·rw [if_pos h1]
  have : ¬ 9218868437227405312 < r:=by omega
  simp [Ieee.Datum.order,this]
 ·rw [if_neg h1]
  by_cases h2 : r < 9218868437227405312
  ·rw [if_pos h2]
   have : ¬ 9218868437227405312 < r:=by omega
   simp [Ieee.Datum.order,this]
  ·rw [if_neg h2]
   by_cases h3 : r = 9218868437227405312
   ·rw [if_pos h3]
    have : ¬ 9218868437227405312 < r:=by omega
    simp [Ieee.Datum.order,this]
   ·rw [if_neg h3]
    have : 9218868437227405312 < r:=by omega
    simp [Ieee.Datum.order,this]
/-- how two floats stand to each other, a NaN above all -/
def cmpF (x y : Nat) : Int :=
 if fNaN x && fNaN y then 0 else if fNaN x then 1 else if fNaN y then -1
 else if FloatKind.f64.format.order x y == some .lt then -1 else if FloatKind.f64.format.order x y == some .gt then 1 else 0
set_option maxRecDepth 100000 in
set_option maxHeartbeats 2000000 in
theorem isNaNf_c (x : Nat) (w : World) : Calls Tryz.prog 132 #[.float .f64 x] w fun e w'=>e = .returned (.bool (fNaN x)) ∧ w = w':=by
 go_enter Tryz.func132,Tryz.ntmps132
 go_wp2_with fail
 go_ret
 exact ⟨rfl,rfl⟩
set_option maxRecDepth 100000 in
set_option maxHeartbeats 2000000 in
theorem cmpF64_c (x y : Nat) (w : World) (h1 : fNaN x = false) (h2 : fNaN y = false) : Calls Tryz.prog 115 #[.float .f64 x,.float .f64 y] w fun e w'=>e = .returned (.int .i64 (cmpF x y)) ∧ w = w':=by
 go_enter Tryz.func115,Tryz.ntmps115
 go_wp2_with (go_at_call 132;refine (isNaNf_c _ _).mono ?_;rintro e w' ⟨rfl,rfl⟩)
 all_goals (go_ret;refine ⟨?_,rfl⟩;congr 2;simp [cmpF, *])
theorem fNaN_def (x : Nat) : (FloatKind.f64.format.order x x != some .eq) = fNaN x:=rfl
set_option maxRecDepth 100000 in
set_option maxHeartbeats 2000000 in
theorem compareFloats_c (x y : Nat) (w : World) : Calls Tryz.prog 91 #[.float .f64 x,.float .f64 y] w fun e w'=>e = .returned (.int .i64 (cmpF x y)) ∧ w = w':=by
 have d1:=fNaN_def x
 have d2:=fNaN_def y
 cases h1 : fNaN x <;> cases h2 : fNaN y
 all_goals
  rw [h1] at d1
  rw [h2] at d2
  go_enter Tryz.func91,Tryz.ntmps91
  go_wp2_with (go_at_call 115;refine (cmpF64_c _ _ _ (by assumption) (by assumption)).mono ?_;rintro e w' ⟨rfl,rfl⟩)
  all_goals (go_ret;refine ⟨?_,rfl⟩;first | rfl | (congr 2;simp [cmpF, *];done))
theorem nan_rung (x : Nat) : fNaN x = decide (9218868437227405312 < rungW x):=by rw [fNaN_iff,Int.toNat_natCast];rfl
end Go.Proofs.YthpkjkcfhipjhaaGreatDoor
end
section
namespace Go.Proofs.YthpkjkcfhipjhaaGreatDoor
set_option linter.unusedVariables false
set_option linter.unusedSimpArgs false
open Go.RowKit
/-- the table of powers of ten is as the program's text lays it -/
def Tab (w : World) : Prop := Lib.TabIs Tryz.prog w "internal/strconv.uint64pow10" .u64 Lib.pow10Tab
theorem Tab.below {w w' : World} (h : Tab w) (hb : Below w.heap.size w w') : Tab w':=Lib.tabBelow_of_tabIs h w' hb
theorem itoa_c (n : Int) (w : World) (hn : I64 n) (ht : Tab w) : Calls Tryz.prog 50 #[.int .i64 n] w fun e w'=>e = .returned (.string ⟨(Lib.itoa n).toArray⟩) ∧ Below w.heap.size w w' :=
 (Tryz.strconv_Itoa n hn.1 hn.2 w ht).mono fun _ _ ⟨h1,k,os,h2⟩=>⟨h1,by rw [h2];exact Lib.below_grow _ _ (Nat.le_refl _) _ _⟩
end Go.Proofs.YthpkjkcfhipjhaaGreatDoor
end
section
namespace Go.Proofs.YthpkjkcfhipjhaaGreatDoor
set_option linter.unusedVariables false
set_option linter.unusedSimpArgs false
open Go.RowKit
def cmpV (k n f : Int) (t : ByteArray) (k' n' f' : Int) (t' : ByteArray) : Int :=
 if !soundV k n f t || !soundV k' n' f' t' then 0
 else if k != k' then Lib.compareInt k k'
 else if k == 3 then cmpF f.toNat f'.toNat
 else if k == 4 then Lib.compareBytes t.data.toList t'.data.toList
 else Lib.compareInt n n'
theorem cmpInt_q (x y : Int) (w : World) : Calls Tryz.prog 90 #[.int .i64 x,.int .i64 y] w fun e w'=>e = .returned (.int .i64 (Lib.compareInt x y)) ∧ w = w' :=
 (Tryz.cmp_Compare_int x y w).mono fun _ _ ⟨h1,h2⟩=>⟨h1,h2.symm⟩
theorem cmpStr_q (x y : ByteArray) (w : World) : Calls Tryz.prog 93 #[.string x,.string y] w fun e w'=>e = .returned (.int .i64 (Lib.compareBytes x.data.toList y.data.toList)) ∧ w = w' :=
 (Tryz.strings_Compare x y w).mono fun _ _ ⟨h1,h2⟩=>⟨h1,h2.symm⟩
set_option maxRecDepth 100000 in
set_option maxHeartbeats 2000000 in
theorem compare_f (n f : Int) (t : ByteArray) (n' f' : Int) (t' : ByteArray) (w : World) (hn : I64 n) (hn' : I64 n') (h1 : soundV 3 n f t = true) (h2 : soundV 3 n' f' t' = true) : Calls Tryz.prog 70 #[.agg #[.int .i64 3,.int .i64 n,.int .u64 f,.string t],.agg #[.int .i64 3,.int .i64 n',.int .u64 f',.string t']] w fun e w'=>e = .returned (.int .i64 (cmpF f.toNat f'.toNat)) ∧ Below w.heap.size w w':=by
 go_enter Tryz.func70,Tryz.ntmps70
 go_wp2_with (first | (go_at_call_of 67 (Value.agg #[.int .i64 3,.int .i64 n,.int .u64 f,.string t]);refine (sound_c 3 n f t _ hn).mono ?_;rintro e w' ⟨rfl,hb⟩;obtain ⟨hc,hf⟩:=bcell hb;(try (have hz0 : w.heap.size < w'.heap.size:=(by have:=hb.size;(try simp at this);omega)));(try (have hz1 : w.heap.size + 1 < w'.heap.size:=(by have:=hb.size;(try simp at this);omega)));(try (have hz2 : w.heap.size + 2 < w'.heap.size:=(by have:=hb.size;(try simp at this);omega)));(try (have hz3 : w.heap.size + 3 < w'.heap.size:=(by have:=hb.size;(try simp at this);omega)))) | (go_at_call 67;refine (sound_c 3 n' f' t' _ hn').mono ?_;rintro e w' ⟨rfl,hb⟩;obtain ⟨hc,hf⟩:=bcell hb;(try (have hz0 : w.heap.size < w'.heap.size:=(by have:=hb.size;(try simp at this);omega)));(try (have hz1 : w.heap.size + 1 < w'.heap.size:=(by have:=hb.size;(try simp at this);omega)));(try (have hz2 : w.heap.size + 2 < w'.heap.size:=(by have:=hb.size;(try simp at this);omega)));(try (have hz3 : w.heap.size + 3 < w'.heap.size:=(by have:=hb.size;(try simp at this);omega)))))
 go_region_with (first | (go_at_call 92;refine (float_c _ _ _ _ _).mono ?_;rintro e w' ⟨rfl,hb⟩;(try (replace hb:=below_undrew hb));(try (replace hb:=below_undrewN hb));obtain ⟨hc,hf⟩:=bcell hb;(try (have hz0 : w.heap.size < w'.heap.size:=(by have:=hb.size;(try simp at this);omega)));(try (have hz1 : w.heap.size + 1 < w'.heap.size:=(by have:=hb.size;(try simp at this);omega)));(try (have hz2 : w.heap.size + 2 < w'.heap.size:=(by have:=hb.size;(try simp at this);omega)));(try (have hz3 : w.heap.size + 3 < w'.heap.size:=(by have:=hb.size;(try simp at this);omega)))) | (go_at_call 91;refine (compareFloats_c _ _ _).mono ?_;rintro e w' ⟨rfl,rfl⟩))
 all_goals (go_wp2_with fail;go_ret;exact ⟨rfl,(by repeat (first | (with_reducible exact Below.refl _ _) | (with_reducible refine below_al ?_ _) | (with_reducible refine below_drewN ?_ _) | (with_reducible refine Below.drew ?_) | (with_reducible refine below_via (by assumption) ?_) | (with_reducible refine below_sc ?_ ?_ _;· (first | (simp;done) | (simp;omega) | omega))))⟩)
set_option maxRecDepth 100000 in
set_option maxHeartbeats 2000000 in
theorem compare_c (k n f : Int) (t : ByteArray) (k' n' f' : Int) (t' : ByteArray) (w : World) (hn : I64 n) (hn' : I64 n') : Calls Tryz.prog 70 #[.agg #[.int .i64 k,.int .i64 n,.int .u64 f,.string t],.agg #[.int .i64 k',.int .i64 n',.int .u64 f',.string t']] w fun e w'=>e = .returned (.int .i64 (cmpV k n f t k' n' f' t')) ∧ Below w.heap.size w w':=by
 have any : ∀ r : Int,cmpV k n f t k' n' f' t' = r → (∀ (e : Ending) (w' : World),(e = .returned (.int .i64 r) ∧ Below w.heap.size w w') → (e = .returned (.int .i64 (cmpV k n f t k' n' f' t')) ∧ Below w.heap.size w w')):=fun r h e w' ⟨a,b⟩=>⟨by rw [h];exact a,b⟩
 cases h1 : soundV k n f t with
 | false =>
  refine Calls.mono ?_ (any 0 (by simp [cmpV,h1]))
  clear any
  go_enter Tryz.func70,Tryz.ntmps70
  go_wp2_with (first | (go_at_call_of 67 (Value.agg #[.int .i64 k,.int .i64 n,.int .u64 f,.string t]);refine (sound_c k n f t _ hn).mono ?_;rintro e w' ⟨rfl,hb⟩;obtain ⟨hc,hf⟩:=bcell hb;(try (have hz0 : w.heap.size < w'.heap.size:=(by have:=hb.size;(try simp at this);omega)));(try (have hz1 : w.heap.size + 1 < w'.heap.size:=(by have:=hb.size;(try simp at this);omega)));(try (have hz2 : w.heap.size + 2 < w'.heap.size:=(by have:=hb.size;(try simp at this);omega)));(try (have hz3 : w.heap.size + 3 < w'.heap.size:=(by have:=hb.size;(try simp at this);omega)))) | (go_at_call 67;refine (sound_c k' n' f' t' _ hn').mono ?_;rintro e w' ⟨rfl,hb⟩;obtain ⟨hc,hf⟩:=bcell hb;(try (have hz0 : w.heap.size < w'.heap.size:=(by have:=hb.size;(try simp at this);omega)));(try (have hz1 : w.heap.size + 1 < w'.heap.size:=(by have:=hb.size;(try simp at this);omega)));(try (have hz2 : w.heap.size + 2 < w'.heap.size:=(by have:=hb.size;(try simp at this);omega)));(try (have hz3 : w.heap.size + 3 < w'.heap.size:=(by have:=hb.size;(try simp at this);omega)))) | (go_at_call 90;refine (cmpInt_q _ _ _).mono ?_;rintro e w' ⟨rfl,rfl⟩) | (go_at_call 93;refine (cmpStr_q _ _ _).mono ?_;rintro e w' ⟨rfl,rfl⟩))
  all_goals (go_ret;exact ⟨rfl,(by repeat (first | (with_reducible exact Below.refl _ _) | (with_reducible refine below_al ?_ _) | (with_reducible refine below_drewN ?_ _) | (with_reducible refine Below.drew ?_) | (with_reducible refine below_via (by assumption) ?_) | (with_reducible refine below_sc ?_ ?_ _;· (first | (simp;done) | (simp;omega) | omega))))⟩)
 | true =>
  cases h2 : soundV k' n' f' t' with
  | false =>
   refine Calls.mono ?_ (any 0 (by simp [cmpV,h2]))
   clear any
   go_enter Tryz.func70,Tryz.ntmps70
   go_wp2_with (first | (go_at_call_of 67 (Value.agg #[.int .i64 k,.int .i64 n,.int .u64 f,.string t]);refine (sound_c k n f t _ hn).mono ?_;rintro e w' ⟨rfl,hb⟩;obtain ⟨hc,hf⟩:=bcell hb;(try (have hz0 : w.heap.size < w'.heap.size:=(by have:=hb.size;(try simp at this);omega)));(try (have hz1 : w.heap.size + 1 < w'.heap.size:=(by have:=hb.size;(try simp at this);omega)));(try (have hz2 : w.heap.size + 2 < w'.heap.size:=(by have:=hb.size;(try simp at this);omega)));(try (have hz3 : w.heap.size + 3 < w'.heap.size:=(by have:=hb.size;(try simp at this);omega)))) | (go_at_call 67;refine (sound_c k' n' f' t' _ hn').mono ?_;rintro e w' ⟨rfl,hb⟩;obtain ⟨hc,hf⟩:=bcell hb;(try (have hz0 : w.heap.size < w'.heap.size:=(by have:=hb.size;(try simp at this);omega)));(try (have hz1 : w.heap.size + 1 < w'.heap.size:=(by have:=hb.size;(try simp at this);omega)));(try (have hz2 : w.heap.size + 2 < w'.heap.size:=(by have:=hb.size;(try simp at this);omega)));(try (have hz3 : w.heap.size + 3 < w'.heap.size:=(by have:=hb.size;(try simp at this);omega)))) | (go_at_call 90;refine (cmpInt_q _ _ _).mono ?_;rintro e w' ⟨rfl,rfl⟩) | (go_at_call 93;refine (cmpStr_q _ _ _).mono ?_;rintro e w' ⟨rfl,rfl⟩))
   all_goals (go_ret;exact ⟨rfl,(by repeat (first | (with_reducible exact Below.refl _ _) | (with_reducible refine below_al ?_ _) | (with_reducible refine below_drewN ?_ _) | (with_reducible refine Below.drew ?_) | (with_reducible refine below_via (by assumption) ?_) | (with_reducible refine below_sc ?_ ?_ _;· (first | (simp;done) | (simp;omega) | omega))))⟩)
  | true =>
   by_cases h3 : k = k'
   ·subst h3
    by_cases h4 : k = 3
    ·subst h4
     exact (compare_f n f t n' f' t' w hn hn' h1 h2).mono (any _ (by simp [cmpV,h1,h2]))
    ·by_cases h5 : k = 4
     ·subst h5
      refine Calls.mono ?_ (any (Lib.compareBytes t.data.toList t'.data.toList) (by simp [cmpV,h1,h2]))
      clear any
      go_enter Tryz.func70,Tryz.ntmps70
      go_wp2_with (first | (go_at_call_of 67 (Value.agg #[.int .i64 4,.int .i64 n,.int .u64 f,.string t]);refine (sound_c 4 n f t _ hn).mono ?_;rintro e w' ⟨rfl,hb⟩;obtain ⟨hc,hf⟩:=bcell hb;(try (have hz0 : w.heap.size < w'.heap.size:=(by have:=hb.size;(try simp at this);omega)));(try (have hz1 : w.heap.size + 1 < w'.heap.size:=(by have:=hb.size;(try simp at this);omega)));(try (have hz2 : w.heap.size + 2 < w'.heap.size:=(by have:=hb.size;(try simp at this);omega)));(try (have hz3 : w.heap.size + 3 < w'.heap.size:=(by have:=hb.size;(try simp at this);omega)))) | (go_at_call 67;refine (sound_c 4 n' f' t' _ hn').mono ?_;rintro e w' ⟨rfl,hb⟩;obtain ⟨hc,hf⟩:=bcell hb;(try (have hz0 : w.heap.size < w'.heap.size:=(by have:=hb.size;(try simp at this);omega)));(try (have hz1 : w.heap.size + 1 < w'.heap.size:=(by have:=hb.size;(try simp at this);omega)));(try (have hz2 : w.heap.size + 2 < w'.heap.size:=(by have:=hb.size;(try simp at this);omega)));(try (have hz3 : w.heap.size + 3 < w'.heap.size:=(by have:=hb.size;(try simp at this);omega)))) | (go_at_call 90;refine (cmpInt_q _ _ _).mono ?_;rintro e w' ⟨rfl,rfl⟩) | (go_at_call 93;refine (cmpStr_q _ _ _).mono ?_;rintro e w' ⟨rfl,rfl⟩))
      all_goals (go_ret;exact ⟨rfl,(by repeat (first | (with_reducible exact Below.refl _ _) | (with_reducible refine below_al ?_ _) | (with_reducible refine below_drewN ?_ _) | (with_reducible refine Below.drew ?_) | (with_reducible refine below_via (by assumption) ?_) | (with_reducible refine below_sc ?_ ?_ _;· (first | (simp;done) | (simp;omega) | omega))))⟩)
     ·refine Calls.mono ?_ (any (Lib.compareInt n n') (by simp [cmpV,h1,h2,h4,h5]))
      clear any
      go_enter Tryz.func70,Tryz.ntmps70
      go_wp2_with (first | (go_at_call_of 67 (Value.agg #[.int .i64 k,.int .i64 n,.int .u64 f,.string t]);refine (sound_c k n f t _ hn).mono ?_;rintro e w' ⟨rfl,hb⟩;obtain ⟨hc,hf⟩:=bcell hb;(try (have hz0 : w.heap.size < w'.heap.size:=(by have:=hb.size;(try simp at this);omega)));(try (have hz1 : w.heap.size + 1 < w'.heap.size:=(by have:=hb.size;(try simp at this);omega)));(try (have hz2 : w.heap.size + 2 < w'.heap.size:=(by have:=hb.size;(try simp at this);omega)));(try (have hz3 : w.heap.size + 3 < w'.heap.size:=(by have:=hb.size;(try simp at this);omega)))) | (go_at_call 67;refine (sound_c k n' f' t' _ hn').mono ?_;rintro e w' ⟨rfl,hb⟩;obtain ⟨hc,hf⟩:=bcell hb;(try (have hz0 : w.heap.size < w'.heap.size:=(by have:=hb.size;(try simp at this);omega)));(try (have hz1 : w.heap.size + 1 < w'.heap.size:=(by have:=hb.size;(try simp at this);omega)));(try (have hz2 : w.heap.size + 2 < w'.heap.size:=(by have:=hb.size;(try simp at this);omega)));(try (have hz3 : w.heap.size + 3 < w'.heap.size:=(by have:=hb.size;(try simp at this);omega)))) | (go_at_call 90;refine (cmpInt_q _ _ _).mono ?_;rintro e w' ⟨rfl,rfl⟩) | (go_at_call 93;refine (cmpStr_q _ _ _).mono ?_;rintro e w' ⟨rfl,rfl⟩))
      all_goals (go_ret;exact ⟨rfl,(by repeat (first | (with_reducible exact Below.refl _ _) | (with_reducible refine below_al ?_ _) | (with_reducible refine below_drewN ?_ _) | (with_reducible refine Below.drew ?_) | (with_reducible refine below_via (by assumption) ?_) | (with_reducible refine below_sc ?_ ?_ _;· (first | (simp;done) | (simp;omega) | omega))))⟩)
   ·refine Calls.mono ?_ (any (Lib.compareInt k k') (by simp [cmpV,h1,h2,h3]))
    clear any
    go_enter Tryz.func70,Tryz.ntmps70
    go_wp2_with (first | (go_at_call_of 67 (Value.agg #[.int .i64 k,.int .i64 n,.int .u64 f,.string t]);refine (sound_c k n f t _ hn).mono ?_;rintro e w' ⟨rfl,hb⟩;obtain ⟨hc,hf⟩:=bcell hb;(try (have hz0 : w.heap.size < w'.heap.size:=(by have:=hb.size;(try simp at this);omega)));(try (have hz1 : w.heap.size + 1 < w'.heap.size:=(by have:=hb.size;(try simp at this);omega)));(try (have hz2 : w.heap.size + 2 < w'.heap.size:=(by have:=hb.size;(try simp at this);omega)));(try (have hz3 : w.heap.size + 3 < w'.heap.size:=(by have:=hb.size;(try simp at this);omega)))) | (go_at_call 67;refine (sound_c k' n' f' t' _ hn').mono ?_;rintro e w' ⟨rfl,hb⟩;obtain ⟨hc,hf⟩:=bcell hb;(try (have hz0 : w.heap.size < w'.heap.size:=(by have:=hb.size;(try simp at this);omega)));(try (have hz1 : w.heap.size + 1 < w'.heap.size:=(by have:=hb.size;(try simp at this);omega)));(try (have hz2 : w.heap.size + 2 < w'.heap.size:=(by have:=hb.size;(try simp at this);omega)));(try (have hz3 : w.heap.size + 3 < w'.heap.size:=(by have:=hb.size;(try simp at this);omega)))) | (go_at_call 90;refine (cmpInt_q _ _ _).mono ?_;rintro e w' ⟨rfl,rfl⟩) | (go_at_call 93;refine (cmpStr_q _ _ _).mono ?_;rintro e w' ⟨rfl,rfl⟩))
    all_goals (go_ret;exact ⟨rfl,(by repeat (first | (with_reducible exact Below.refl _ _) | (with_reducible refine below_al ?_ _) | (with_reducible refine below_drewN ?_ _) | (with_reducible refine Below.drew ?_) | (with_reducible refine below_via (by assumption) ?_) | (with_reducible refine below_sc ?_ ?_ _;· (first | (simp;done) | (simp;omega) | omega))))⟩)
end Go.Proofs.YthpkjkcfhipjhaaGreatDoor
end
section
namespace Go.Proofs.YthpkjkcfhipjhaaGreatDoor
set_option linter.unusedVariables false
set_option linter.unusedSimpArgs false
open Go.RowKit
def sV (x : V) : Bool:=soundV x.k x.n x.f x.t
theorem sound_cases {k n f : Int} {t : ByteArray} (h : soundV k n f t = true) :
  (k = 0 ∧ n = 0 ∧ f = 0 ∧ t = ⟨#[]⟩) ∨ (k = 1 ∧ (n = 0 ∨ n = 1) ∧ f = 0 ∧ t = ⟨#[]⟩) ∨ (k = 2 ∧ f = 0 ∧ t = ⟨#[]⟩) ∨ (k = 3 ∧ n = 0 ∧ plainI f = f ∧ t = ⟨#[]⟩) ∨ (k = 4 ∧ n = 0 ∧ f = 0 ∧ t.size ≤ 4096):=by
 unfold soundV at h
 split at h
 ·rename_i h0;rw [eqV_iff] at h;left;exact ⟨h.1,h.2.1,h.2.2.1,h.2.2.2⟩
 ·split at h
  ·simp only [Bool.and_eq_true,eqV_iff,Bool.or_eq_true,beq_iff_eq] at h;right;left;exact ⟨h.1.1,h.2,h.1.2.2.1,h.1.2.2.2⟩
  ·split at h
   ·rw [eqV_iff] at h;right;right;left;exact ⟨h.1,h.2.2.1,h.2.2.2⟩
   ·split at h
    ·simp only [Bool.and_eq_true,eqV_iff,beq_iff_eq] at h;right;right;right;left;exact ⟨h.1.1,h.1.2.1,h.2,h.1.2.2.2⟩
    ·split at h
     ·simp only [Bool.and_eq_true,eqV_iff,decide_eq_true_eq] at h;right;right;right;right;exact ⟨h.1.1,h.1.2.1,h.1.2.2.1,h.2⟩
     ·cases h
end Go.Proofs.YthpkjkcfhipjhaaGreatDoor
end
section
namespace Go.Proofs.YthpkjkcfhipjhaaGreatDoor
set_option linter.unusedVariables false
set_option linter.unusedSimpArgs false
open Go.RowKit
theorem ci_range (a b : Int) : Lib.compareInt a b = -1 ∨ Lib.compareInt a b = 0 ∨ Lib.compareInt a b = 1:=by unfold Lib.compareInt;split;simp;split <;> simp
theorem ci_lt (a b : Int) : Lib.compareInt a b = -1 ↔ a < b:=by unfold Lib.compareInt;split;simp [*];split <;> simp <;> omega
theorem ci_eq (a b : Int) : Lib.compareInt a b = 0 ↔ a = b:=by unfold Lib.compareInt;split;simp;omega;split <;> simp <;> omega
theorem ci_gt (a b : Int) : Lib.compareInt a b = 1 ↔ b < a:=by unfold Lib.compareInt;split;simp;omega;split <;> simp <;> omega
/-- a compare that is one total order on the things that p holds of -/
structure Ord (α : Type) (p : α → Prop) (c : α → α → Int) : Prop where
 range : ∀ a b,c a b = -1 ∨ c a b = 0 ∨ c a b = 1
 anti : ∀ a b,c a b = -(c b a)
 same : ∀ a b,p a → p b → (c a b = 0 ↔ a = b)
 trans : ∀ a b d,c a b ≤ 0 → c b d ≤ 0 → c a d ≤ 0
theorem ord_int : Ord Int (fun _=>True) Lib.compareInt where
 range:=ci_range
 anti a b:=by
  have h1:=ci_range a b;have h2:=ci_range b a;have:=ci_lt a b;have:=ci_lt b a;have:=ci_eq a b;have:=ci_eq b a;have:=ci_gt a b;have:=ci_gt b a
  omega
 same a b _ _:=ci_eq a b
 trans a b d h1 h2:=by
  have g1:=ci_range a b;have g2:=ci_range b d;have g3:=ci_range a d;have:=ci_lt a b;have:=ci_eq a b;have:=ci_gt a b;have:=ci_lt b d;have:=ci_eq b d;have:=ci_gt b d;have:=ci_lt a d;have:=ci_eq a d;have:=ci_gt a d
  omega
/-- a compare by a key -/
theorem ord_key {α : Type} {p : α → Prop} (key : α → Int) (inj : ∀ a b,p a → p b → key a = key b → a = b) : Ord α p (fun a b=>Lib.compareInt (key a) (key b)) where
 range a b:=ci_range _ _
 anti a b:=ord_int.anti _ _
 same a b ha hb:=⟨fun h=>inj a b ha hb ((ci_eq _ _).1 h),fun h=>(ci_eq _ _).2 (by rw [h])⟩
 trans a b d h1 h2:=ord_int.trans _ _ _ h1 h2
theorem u8_lt (a b : UInt8) : a < b ↔ a.toNat < b.toNat:=UInt8.lt_iff_toNat_lt
theorem u8_eq (a b : UInt8) : a = b ↔ a.toNat = b.toNat:=UInt8.toNat_inj.symm
theorem cb_range : ∀ a b : List UInt8,Lib.compareBytes a b = -1 ∨ Lib.compareBytes a b = 0 ∨ Lib.compareBytes a b = 1
 | [],[]=>by simp [Lib.compareBytes]
 | [],_ :: _=>by simp [Lib.compareBytes]
 | _ :: _,[]=>by simp [Lib.compareBytes]
 | a :: la,b :: lb=>by
  rw [Lib.compareBytes]
  split
  ·simp
  ·split
   ·simp
   ·exact cb_range la lb
theorem cb_anti : ∀ a b : List UInt8,Lib.compareBytes a b = -(Lib.compareBytes b a)
 | [],[]=>by simp [Lib.compareBytes]
 | [],_ :: _=>by simp [Lib.compareBytes]
 | _ :: _,[]=>by simp [Lib.compareBytes]
 | a :: la,b :: lb=>by
  have ih:=cb_anti la lb
  simp only [Lib.compareBytes,u8_lt]
  by_cases h1 : a.toNat < b.toNat
  ·have h2 : ¬ b.toNat < a.toNat:=by omega
   simp [h1,h2]
  ·by_cases h2 : b.toNat < a.toNat
   ·simp [h1,h2]
   ·simp [h1,h2,ih]
theorem cb_same : ∀ a b : List UInt8,Lib.compareBytes a b = 0 ↔ a = b
 | [],[]=>by simp [Lib.compareBytes]
 | [],_ :: _=>by simp [Lib.compareBytes]
 | _ :: _,[]=>by simp [Lib.compareBytes]
 | a :: la,b :: lb=>by
  have ih:=cb_same la lb
  simp only [Lib.compareBytes,u8_lt,List.cons.injEq]
  by_cases h1 : a.toNat < b.toNat
  ·have h2 : a ≠ b:=fun h=>by rw [u8_eq] at h;omega
   simp [h1,h2]
  ·by_cases h2 : b.toNat < a.toNat
   ·have h3 : a ≠ b:=fun h=>by rw [u8_eq] at h;omega
    simp [h1,h2,h3]
   ·have h3 : a = b:=by rw [u8_eq];omega
    simp [h1,h2,h3,ih]
theorem cb_trans : ∀ a b c : List UInt8,Lib.compareBytes a b ≤ 0 → Lib.compareBytes b c ≤ 0 → Lib.compareBytes a c ≤ 0
 | [],_,[],_,_=>by simp [Lib.compareBytes]
 | [],_,_ :: _,_,_=>by simp [Lib.compareBytes]
 | _ :: _,[],_,h,_=>by simp [Lib.compareBytes] at h
 | _ :: _,_ :: _,[],_,h=>by simp [Lib.compareBytes] at h
 | a :: la,b :: lb,c :: lc,h1,h2=>by
  have ih:=cb_trans la lb lc
  simp only [Lib.compareBytes,u8_lt] at h1 h2 ⊢
  by_cases g1 : a.toNat < b.toNat
  ·by_cases g2 : b.toNat < c.toNat
   ·rw [if_pos (by omega)];decide
   ·by_cases g3 : c.toNat < b.toNat
    ·rw [if_neg g2,if_pos g3] at h2;omega
    ·rw [if_pos (by omega)];decide
  ·by_cases g1' : b.toNat < a.toNat
   ·rw [if_neg g1,if_pos g1'] at h1;omega
   ·by_cases g2 : b.toNat < c.toNat
    ·rw [if_pos (by omega)];decide
    ·by_cases g3 : c.toNat < b.toNat
     ·rw [if_neg g2,if_pos g3] at h2;omega
     ·rw [if_neg (by omega),if_neg (by omega)]
      rw [if_neg g1,if_neg g1'] at h1
      rw [if_neg g2,if_neg g3] at h2
      exact ih h1 h2
theorem ord_bytes : Ord ByteArray (fun _=>True) (fun a b=>Lib.compareBytes a.data.toList b.data.toList) where
 range a b:=cb_range _ _
 anti a b:=cb_anti _ _
 same a b _ _:=by
  rw [cb_same]
  constructor
  ·intro h
   have : a.data = b.data:=Array.toList_inj.1 h
   cases a;cases b;cases this;rfl
  ·rintro rfl;rfl
 trans a b d h1 h2:=cb_trans _ _ _ h1 h2
/-- the place of a float among all, a NaN the highest -/
def fkey (x : Nat) : Int:=if fNaN x then 9223372036854775808 else sr x
theorem int_cmp (a b : Int) : compare a b = if a < b then .lt else if a = b then .eq else .gt:=rfl
theorem rung_lt (x : Nat) : rungW x < 9223372036854775808:=Nat.mod_lt _ (by decide)
theorem sr_lt (x : Nat) : -9223372036854775808 < sr x ∧ sr x < 9223372036854775808:=by
 have:=rung_lt x
 unfold sr;split <;> omega
theorem cmpF_key (x y : Nat) : cmpF x y = Lib.compareInt (fkey x) (fkey y):=by
 have lx:=sr_lt x
 have ly:=sr_lt y
 unfold cmpF fkey
 cases hx : fNaN x <;> cases hy : fNaN y
 ·have gx : rungW x ≤ 9218868437227405312:=by have:=nan_rung x;rw [hx] at this;simpa using this.symm
  have gy : rungW y ≤ 9218868437227405312:=by have:=nan_rung y;rw [hy] at this;simpa using this.symm
  have ho : FloatKind.f64.format.order x y = some (compare (sr x) (sr y)):=order_sr gx gy
  rw [ho,int_cmp]
  simp only [Bool.false_and,Bool.false_eq_true,if_false,Lib.compareInt]
  by_cases h1 : sr x < sr y
  ·simp [h1]
  ·by_cases h2 : sr x = sr y
   ·simp [h2]
   ·have h3 : sr x > sr y:=by omega
    simp [h1,h2,h3]
 ·simp [Lib.compareInt];omega
 ·simp [Lib.compareInt];omega
 ·simp [Lib.compareInt]
theorem fkey_inj {x y : Int} (ux : 0 ≤ x ∧ x < 18446744073709551616) (uy : 0 ≤ y ∧ y < 18446744073709551616) (px : plainI x = x) (py : plainI y = y) (h : fkey x.toNat = fkey y.toNat) : x = y:=by
 have lx:=sr_lt x.toNat
 have ly:=sr_lt y.toNat
 have cx : ∀ x : Int,0 ≤ x → fNaN x.toNat = fNaN x:=fun x hx=>by rw [show ((x.toNat : Nat) : Int) = x by omega]
 unfold fkey at h
 rw [cx x ux.1,cx y uy.1] at h
 cases hx : fNaN x <;> cases hy : fNaN y
 ·rw [hx,hy] at h
  simp only [Bool.false_eq_true,if_false] at h
  have nx : x ≠ 9223372036854775808:=fun e=>by subst e;revert px;decide +kernel
  have ny : y ≠ 9223372036854775808:=fun e=>by subst e;revert py;decide +kernel
  unfold sr negW rungW at h
  have hx2 : x.toNat / 9223372036854775808 = 0 ∨ x.toNat / 9223372036854775808 = 1:=by omega
  have hy2 : y.toNat / 9223372036854775808 = 0 ∨ y.toNat / 9223372036854775808 = 1:=by omega
  rcases hx2 with e1 | e1 <;> rcases hy2 with e2 | e2 <;> rw [e1,e2] at h <;> simp at h <;> omega
 ·rw [hx,hy] at h;simp at h;omega
 ·rw [hx,hy] at h;simp at h;omega
 ·simp only [plainI,hx,if_true] at px
  simp only [plainI,hy,if_true] at py
  omega
theorem ord_float : Ord Int (fun f=>(0 ≤ f ∧ f < 18446744073709551616) ∧ plainI f = f) (fun x y=>cmpF x.toNat y.toNat):=by
 have h:=ord_key (p:=fun f : Int=>(0 ≤ f ∧ f < 18446744073709551616) ∧ plainI f = f) (fun x=>fkey x.toNat) (fun a b ha hb he=>fkey_inj ha.1 hb.1 ha.2 hb.2 he)
 have e : (fun x y : Int=>cmpF x.toNat y.toNat) = fun a b=>Lib.compareInt (fkey a.toNat) (fkey b.toNat):=by funext x y;exact cmpF_key _ _
 rw [e];exact h
/-- a value of the language -/
def sV64 (x : V) : Prop:=sV x = true ∧ 0 ≤ x.f ∧ x.f < 18446744073709551616
def cV (x y : V) : Int:=cmpV x.k x.n x.f x.t y.k y.n y.f y.t
theorem cV_eq (x y : V) (hx : sV x = true) (hy : sV y = true) : cV x y = if x.k = y.k then (if x.k = 3 then cmpF x.f.toNat y.f.toNat else if x.k = 4 then Lib.compareBytes x.t.data.toList y.t.data.toList else Lib.compareInt x.n y.n) else Lib.compareInt x.k y.k:=by
 unfold cV cmpV
 have hx' : soundV x.k x.n x.f x.t = true:=hx
 have hy' : soundV y.k y.n y.f y.t = true:=hy
 rw [hx',hy']
 by_cases h : x.k = y.k
 ·simp [h]
 ·simp [h]
theorem cV_same (x y : V) (hx : sV64 x) (hy : sV64 y) : cV x y = 0 ↔ x = y:=by
 rw [cV_eq x y hx.1 hy.1]
 have sx:=sound_cases hx.1
 have sy:=sound_cases hy.1
 obtain ⟨k,n,f,t⟩:=x
 obtain ⟨k',n',f',t'⟩:=y
 simp only [V.mk.injEq] at *
 by_cases h : k = k'
 ·subst h
  rw [if_pos rfl]
  split
  ·rename_i h3;subst h3
   rcases sx with ⟨a,_⟩ | ⟨a,_⟩ | ⟨a,_⟩ | ⟨_,rfl,p,rfl⟩ | ⟨a,_⟩ <;> first | omega | skip
   rcases sy with ⟨a,_⟩ | ⟨a,_⟩ | ⟨a,_⟩ | ⟨_,rfl,p',rfl⟩ | ⟨a,_⟩ <;> first | omega | skip
   rw [ord_float.same _ _ ⟨hx.2,p⟩ ⟨hy.2,p'⟩];simp
  ·split
   ·rename_i h4;subst h4
    rcases sx with ⟨a,_⟩ | ⟨a,_⟩ | ⟨a,_⟩ | ⟨a,_⟩ | ⟨_,rfl,rfl,_⟩ <;> first | omega | skip
    rcases sy with ⟨a,_⟩ | ⟨a,_⟩ | ⟨a,_⟩ | ⟨a,_⟩ | ⟨_,rfl,rfl,_⟩ <;> first | omega | skip
    rw [ord_bytes.same _ _ trivial trivial];simp
   ·rw [ci_eq]
    have ft : f = 0 ∧ t = ⟨#[]⟩:=by
     rcases sx with ⟨_,_,a,b⟩ | ⟨_,_,a,b⟩ | ⟨_,a,b⟩ | ⟨a,_⟩ | ⟨a,_⟩
     ·exact ⟨a,b⟩
     ·exact ⟨a,b⟩
     ·exact ⟨a,b⟩
     ·omega
     ·omega
    have ft' : f' = 0 ∧ t' = ⟨#[]⟩:=by
     rcases sy with ⟨_,_,a,b⟩ | ⟨_,_,a,b⟩ | ⟨_,a,b⟩ | ⟨a,_⟩ | ⟨a,_⟩
     ·exact ⟨a,b⟩
     ·exact ⟨a,b⟩
     ·exact ⟨a,b⟩
     ·omega
     ·omega
    simp [ft.1,ft.2,ft'.1,ft'.2]
 ·rw [if_neg h,ci_eq];simp [h]
end Go.Proofs.YthpkjkcfhipjhaaGreatDoor
end
section
namespace Go.Proofs.YthpkjkcfhipjhaaGreatDoor
set_option linter.unusedVariables false
set_option linter.unusedSimpArgs false
open Go.RowKit
theorem and63 (b : Int) (h : U64 b) : bits .and .u64 b 9223372036854775807 = b % 9223372036854775808:=bits_mask .u64 64 (by decide) wraps_u64 63 (by decide) b h.1 h.2
theorem fNaN_and (b : Int) (h : U64 b) : decide (9218868437227405312 < bits .and .u64 b 9223372036854775807) = fNaN b:=by
 obtain ⟨h0,h1⟩:=h
 rw [and63 b ⟨h0,h1⟩,fNaN_iff]
 congr 1
 apply propext
 omega
set_option maxRecDepth 100000 in
set_option maxHeartbeats 2000000 in
theorem rIsNaN_c (b : Int) (w : World) (h : U64 b) : Calls Tryz.prog 113 #[.int .u64 b] w fun e w'=>e = .returned (.bool (fNaN b)) ∧ w = w':=by
 have h2:=fNaN_and b h
 go_enter Tryz.func113,Tryz.ntmps113
 go_wp2_with fail
 go_ret
 exact ⟨rfl,rfl⟩
set_option maxRecDepth 100000 in
set_option maxHeartbeats 2000000 in
theorem rPlain_c (b : Int) (w : World) (h : U64 b) : Calls Tryz.prog 89 #[.int .u64 b] w fun e w' => e = .returned (.int .u64 (plainI b)) ∧ w = w' := by
  have hm : fNaN 9223372036854775808 = false := by kernel_rfl
  go_enter Tryz.func89, Tryz.ntmps89
  go_wp2_with (go_at_call 113; refine (rIsNaN_c _ _ h).mono ?_; rintro e w' ⟨rfl, rfl⟩)
  · go_ret; refine ⟨?_, rfl⟩
    have hb : b = 9223372036854775808 := by have : (b == 9223372036854775808) = true := by assumption
                                            simpa using this
    subst hb; rfl
  · go_ret; refine ⟨?_, rfl⟩
    have hN : fNaN b = true := by assumption
    simp only [plainI, hN, if_true]; rfl
  · go_ret; refine ⟨?_, rfl⟩
    have hN : fNaN b = false := by assumption
    have hb : (b == 9223372036854775808) = false := by assumption
    simp only [plainI, hN, hb]; rfl
theorem xor_max (b : Int) (h : U64 b) : bits .xor .u64 IntKind.u64.max b = 18446744073709551615 - b:=by
 obtain ⟨h0,h1⟩:=h
 show IntKind.u64.wrap (((BitVec.ofInt 64 18446744073709551615) ^^^ (BitVec.ofInt 64 b)).toNat : Int) = _
 rw [BitVec.toNat_xor,BitVec.toNat_ofInt,BitVec.toNat_ofInt]
 have e1 : ((18446744073709551615 : Int) % ((2 ^ 64 : Nat) : Int)).toNat = 2 ^ 64 - 1:=by decide
 have e2 : (b % ((2 ^ 64 : Nat) : Int)).toNat = b.toNat:=by
  have : ((2 ^ 64 : Nat) : Int) = 18446744073709551616:=by decide
  omega
 rw [e1,e2,Lib.xor_ones64 _ (by omega),IntKind.wrap_u64]
 omega
def rKey (b : Int) : Int:=if b < 9223372036854775808 then b + 9223372036854775808 else 18446744073709551615 - b
set_option maxRecDepth 100000 in
set_option maxHeartbeats 2000000 in
theorem rKey_c (b : Int) (w : World) (h : U64 b) : Calls Tryz.prog 95 #[.int .u64 b] w fun e w'=>e = .returned (.int .u64 (rKey b)) ∧ w = w':=by
 go_enter Tryz.func95,Tryz.ntmps95
 have hx:=xor_max b h
 go_wp2_with fail
 ·go_ret;refine ⟨?_,rfl⟩
  have hb : (b / 9223372036854775808 == 1) = true:=by assumption
  have hb2 : b / 9223372036854775808 = 1:=by simpa using hb
  have : rKey b = 18446744073709551615 - b:=by unfold rKey;rw [if_neg (by omega)]
  rw [this,← xor_max b (by assumption)];rfl
 ·go_ret;refine ⟨?_,rfl⟩
  have hb : (b / 9223372036854775808 == 1) = false:=by assumption
  have hb2 : ¬ b / 9223372036854775808 = 1:=by simpa using hb
  have hlt : b < 9223372036854775808:=by have:=h.2;omega
  have : rKey b = b + 9223372036854775808:=by unfold rKey;rw [if_pos hlt]
  rw [this,← u64_orv63 b 9223372036854775808 h.1 hlt (by omega) (by omega) (by omega)];rfl
set_option maxRecDepth 100000 in
set_option maxHeartbeats 2000000 in
theorem rSign_c (x y : Bool) (w : World) : Calls Tryz.prog 94 #[.bool x,.bool y] w fun e w'=>e = .returned (.int .i64 (if x then -1 else if y then 1 else 0)) ∧ w = w':=by
 cases x <;> cases y
 all_goals
  go_enter Tryz.func94,Tryz.ntmps94
  go_wp2_with fail
  go_ret
  exact ⟨rfl,rfl⟩
theorem rPlain_q (b : Int) (w : World) (h : U64 b) : Calls Tryz.prog 89 #[.int .u64 b] w fun e w'=>e = .returned (.int .u64 (plainI b)) ∧ w' = w:=(rPlain_c b w h).mono fun _ _ ⟨a,b⟩=>⟨a,b.symm⟩
theorem sound3_f {n f : Int} {t : ByteArray} (h : eqV 3 n f t 3 0 f ⟨#[]⟩ = false) : soundV 3 n f t = false:=by simp [soundV,h]
theorem sound3_t {n f : Int} {t : ByteArray} (h : eqV 3 n f t 3 0 f ⟨#[]⟩ = true) : soundV 3 n f t = (plainI f == f):=by simp [soundV,h]
set_option maxRecDepth 100000 in
set_option maxHeartbeats 2000000 in
theorem rSound_c (k n f : Int) (t : ByteArray) (w : World) (hf : U64 f) :
  Calls Tryz.prog 68 #[.agg #[.int .i64 k,.int .i64 n,.int .u64 f,.string t]] w fun e w'=>e = .returned (.bool (soundV k n f t)) ∧ Below w.heap.size w w':=by
 have h1:=run_eqV
 by_cases h3 : k = 3
 ·subst h3
  cases he : eqV 3 n f t 3 0 f ⟨#[]⟩
  ·rw [sound3_f he]
   go_enter Tryz.func68,Tryz.ntmps68
   go_wp2_with fail
   go_quiet ((go_at_call 89;exact Calls.quiet_of_same (rPlain_q _ _ hf)))
   go_wp2_with fail
   go_ret;exact ⟨rfl,below_box_drewN _ _ _⟩
  ·rw [sound3_t he]
   go_enter Tryz.func68,Tryz.ntmps68
   go_wp2_with fail
   go_quiet ((go_at_call 89;exact Calls.quiet_of_same (rPlain_q _ _ hf)))
   go_wp2_with fail
   go_ret;exact ⟨rfl,below_box_drewN _ _ _⟩
 ·have hk3 : (k == 3) = false:=by simpa using h3
  go_enter Tryz.func68,Tryz.ntmps68
  go_wp2_with fail
  all_goals (clear h1;go_ret;refine ⟨?_,by first | exact below_box _ _ | exact below_box_drewN _ _ _⟩;congr 2;first | (simp [soundV,eqV,cast_le_4096, *];done) | (simp_all [soundV,eqV,cast_le_4096];done) | trace_state)
end Go.Proofs.YthpkjkcfhipjhaaGreatDoor
end
section
namespace Go.Proofs.YthpkjkcfhipjhaaGreatDoor
set_option linter.unusedVariables false
set_option linter.unusedSimpArgs false
open Go.RowKit
theorem rKey_q (b : Int) (w : World) (h : U64 b) : Calls Tryz.prog 95 #[.int .u64 b] w fun e w'=>e = .returned (.int .u64 (rKey b)) ∧ w' = w:=(rKey_c b w h).mono fun _ _ ⟨a,b⟩=>⟨a,b.symm⟩
/-- the document's order -/
def rCmp (k n f : Int) (t : ByteArray) (k' n' f' : Int) (t' : ByteArray) : Int :=
 if !soundV k n f t || !soundV k' n' f' t' then 0
 else if k != k' then Lib.compareInt k k'
 else if k == 3 then Lib.compareInt (rKey f) (rKey f')
 else if k == 4 then Lib.compareBytes t.data.toList t'.data.toList
 else Lib.compareInt n n'
theorem sign_ci (x y : Int) : (if decide (x < y) then -1 else if decide (y < x) then 1 else 0 : Int) = Lib.compareInt x y:=by
 unfold Lib.compareInt;simp
theorem less_cb : ∀ a b : List UInt8,Op.bytesLess a b = decide (Lib.compareBytes a b = -1)
 | [],[]=>by simp [Op.bytesLess,Lib.compareBytes]
 | [],_ :: _=>by simp [Op.bytesLess,Lib.compareBytes]
 | _ :: _,[]=>by simp [Op.bytesLess,Lib.compareBytes]
 | a :: la,b :: lb=>by
  have ih:=less_cb la lb
  simp only [Op.bytesLess,Lib.compareBytes,ih,u8_lt]
  by_cases h1 : a.toNat < b.toNat
  ·have : a < b:=(u8_lt a b).2 h1
   simp [h1,this]
  ·have n1 : ¬ a < b:=fun h=>h1 ((u8_lt a b).1 h)
   by_cases h2 : b.toNat < a.toNat
   ·have h3 : a ≠ b:=fun h=>by rw [u8_eq] at h;omega
    simp [h1,h2,n1,h3]
   ·have h3 : a = b:=by rw [u8_eq];omega
    subst h3;simp [h1,n1]
theorem text_sign (t t' : ByteArray) : (if Op.bytesLess t.toList t'.toList then -1 else if !(Op.bytesLess t.toList t'.toList || t.toList == t'.toList) then 1 else 0 : Int) = Lib.compareBytes t.data.toList t'.data.toList:=by
 rw [ByteArray.toList_eq,ByteArray.toList_eq,less_cb]
 have h1:=cb_range t.data.toList t'.data.toList
 have h2:=cb_same t.data.toList t'.data.toList
 generalize Lib.compareBytes t.data.toList t'.data.toList = c at *
 rcases h1 with rfl | rfl | rfl
 ·simp
 ·have:=h2.1 rfl;simp [this]
 ·have h3 : (t.data.toList == t'.data.toList) = false:=by rw [beq_eq_false_iff_ne];intro h;have:=h2.2 h;omega
  rw [h3];simp
theorem rSign_ci (x y : Int) (w : World) : Calls Tryz.prog 94 #[.bool (decide (x < y)),.bool (decide (y < x))] w fun e w'=>e = .returned (.int .i64 (Lib.compareInt x y)) ∧ w = w':=by
 have:=rSign_c (decide (x < y)) (decide (y < x)) w
 rw [sign_ci] at this;exact this
theorem rSign_tx (t t' : ByteArray) (w : World) : Calls Tryz.prog 94 #[.bool (Op.bytesLess t.toList t'.toList),.bool !(Op.bytesLess t.toList t'.toList || t.toList == t'.toList)] w fun e w'=>e = .returned (.int .i64 (Lib.compareBytes t.data.toList t'.data.toList)) ∧ w = w':=by
 have:=rSign_c (Op.bytesLess t.toList t'.toList) (!(Op.bytesLess t.toList t'.toList || t.toList == t'.toList)) w
 rw [text_sign] at this;exact this
theorem rSign_tx' (t t' : ByteArray) (w : World) : Calls Tryz.prog 94 #[.bool (Op.bytesLess t.toList t'.toList),.bool (!Op.bytesLess t.toList t'.toList && !t.toList == t'.toList)] w fun e w'=>e = .returned (.int .i64 (Lib.compareBytes t.data.toList t'.data.toList)) ∧ w = w':=by
 rw [← Bool.not_or];exact rSign_tx t t' w
set_option maxRecDepth 100000 in
set_option maxHeartbeats 1000000 in
theorem rCompare_0 (k n f : Int) (t : ByteArray) (k' n' f' : Int) (t' : ByteArray) (w : World) (b1 b2 : Bool) (hb : (b1 && b2) = false)
  (s1 : ∀ w,Calls Tryz.prog 68 #[.agg #[.int .i64 k,.int .i64 n,.int .u64 f,.string t]] w fun e w'=>e = .returned (.bool b1) ∧ Below w.heap.size w w')
  (s2 : ∀ w,Calls Tryz.prog 68 #[.agg #[.int .i64 k',.int .i64 n',.int .u64 f',.string t']] w fun e w'=>e = .returned (.bool b2) ∧ Below w.heap.size w w') :
  Calls Tryz.prog 71 #[.agg #[.int .i64 k,.int .i64 n,.int .u64 f,.string t],.agg #[.int .i64 k',.int .i64 n',.int .u64 f',.string t']] w fun e w'=>e = .returned (.int .i64 0) ∧ Below w.heap.size w w':=by
 have S1:=Lib.hid s1;have S2:=Lib.hid s2;clear s1 s2
 cases b1 <;> cases b2
 all_goals try (exfalso;simp at hb;done)
 all_goals clear hb
 all_goals
  go_enter Tryz.func71,Tryz.ntmps71
  go_wp2_with (first | (go_at_call 68;(fail_if_success (have:=w1));((with_reducible refine (S1.out _).mono ?_);rintro e w1 ⟨rfl,hb1⟩;(try (replace hb1:=below_undrew hb1));(try (replace hb1:=below_undrewN hb1));obtain ⟨hc1,hf1⟩:=bcell hb1;(try (have hz0_1 : w.heap.size < w1.heap.size:=(by have:=hb1.size;(try simp at this);omega)));(try (have hz1_1 : w.heap.size + 1 < w1.heap.size:=(by have:=hb1.size;(try simp at this);omega))))) | (go_at_call 68;(fail_if_success (have:=w1));((with_reducible refine (S2.out _).mono ?_);rintro e w1 ⟨rfl,hb1⟩;(try (replace hb1:=below_undrew hb1));(try (replace hb1:=below_undrewN hb1));obtain ⟨hc1,hf1⟩:=bcell hb1;(try (have hz0_1 : w.heap.size < w1.heap.size:=(by have:=hb1.size;(try simp at this);omega)));(try (have hz1_1 : w.heap.size + 1 < w1.heap.size:=(by have:=hb1.size;(try simp at this);omega))))) | (go_at_call 68;(fail_if_success (have:=w2));((with_reducible refine (S1.out _).mono ?_);rintro e w2 ⟨rfl,hb2⟩;(try (replace hb2:=below_undrew hb2));(try (replace hb2:=below_undrewN hb2));obtain ⟨hc2,hf2⟩:=bcell hb2;(try (have hz0_2 : w.heap.size < w2.heap.size:=(by have:=hb2.size;(try simp at this);omega)));(try (have hz1_2 : w.heap.size + 1 < w2.heap.size:=(by have:=hb2.size;(try simp at this);omega)));(try (have hz_1_2 : w1.heap.size < w2.heap.size:=(by have:=hb2.size;(try simp at this);omega))))) | (go_at_call 68;(fail_if_success (have:=w2));((with_reducible refine (S2.out _).mono ?_);rintro e w2 ⟨rfl,hb2⟩;(try (replace hb2:=below_undrew hb2));(try (replace hb2:=below_undrewN hb2));obtain ⟨hc2,hf2⟩:=bcell hb2;(try (have hz0_2 : w.heap.size < w2.heap.size:=(by have:=hb2.size;(try simp at this);omega)));(try (have hz1_2 : w.heap.size + 1 < w2.heap.size:=(by have:=hb2.size;(try simp at this);omega)));(try (have hz_1_2 : w1.heap.size < w2.heap.size:=(by have:=hb2.size;(try simp at this);omega))))))
  go_ret;exact ⟨rfl,(by repeat (first | (with_reducible exact Below.refl _ _) | (with_reducible refine below_al ?_ _) | (with_reducible refine below_drewN ?_ _) | (with_reducible refine Below.drew ?_) | (with_reducible refine below_via (by assumption) ?_) | (with_reducible refine below_sc ?_ ?_ _;· (first | (simp;done) | (simp;omega) | omega))))⟩
set_option maxRecDepth 100000 in
set_option maxHeartbeats 1000000 in
theorem rCompare_k (k n f : Int) (t : ByteArray) (k' n' f' : Int) (t' : ByteArray) (w : World) (hk : (k == k') = false)
  (s1 : ∀ w,Calls Tryz.prog 68 #[.agg #[.int .i64 k,.int .i64 n,.int .u64 f,.string t]] w fun e w'=>e = .returned (.bool true) ∧ Below w.heap.size w w')
  (s2 : ∀ w,Calls Tryz.prog 68 #[.agg #[.int .i64 k',.int .i64 n',.int .u64 f',.string t']] w fun e w'=>e = .returned (.bool true) ∧ Below w.heap.size w w') :
  Calls Tryz.prog 71 #[.agg #[.int .i64 k,.int .i64 n,.int .u64 f,.string t],.agg #[.int .i64 k',.int .i64 n',.int .u64 f',.string t']] w fun e w'=>e = .returned (.int .i64 (Lib.compareInt k k')) ∧ Below w.heap.size w w':=by
 have S1:=Lib.hid s1;have S2:=Lib.hid s2;clear s1 s2
 go_enter Tryz.func71,Tryz.ntmps71
 go_wp2_with (first | (first | (go_at_call 68;(fail_if_success (have:=w1));((with_reducible refine (S1.out _).mono ?_);rintro e w1 ⟨rfl,hb1⟩;(try (replace hb1:=below_undrew hb1));(try (replace hb1:=below_undrewN hb1));obtain ⟨hc1,hf1⟩:=bcell hb1;(try (have hz0_1 : w.heap.size < w1.heap.size:=(by have:=hb1.size;(try simp at this);omega)));(try (have hz1_1 : w.heap.size + 1 < w1.heap.size:=(by have:=hb1.size;(try simp at this);omega))))) | (go_at_call 68;(fail_if_success (have:=w1));((with_reducible refine (S2.out _).mono ?_);rintro e w1 ⟨rfl,hb1⟩;(try (replace hb1:=below_undrew hb1));(try (replace hb1:=below_undrewN hb1));obtain ⟨hc1,hf1⟩:=bcell hb1;(try (have hz0_1 : w.heap.size < w1.heap.size:=(by have:=hb1.size;(try simp at this);omega)));(try (have hz1_1 : w.heap.size + 1 < w1.heap.size:=(by have:=hb1.size;(try simp at this);omega))))) | (go_at_call 68;(fail_if_success (have:=w2));((with_reducible refine (S1.out _).mono ?_);rintro e w2 ⟨rfl,hb2⟩;(try (replace hb2:=below_undrew hb2));(try (replace hb2:=below_undrewN hb2));obtain ⟨hc2,hf2⟩:=bcell hb2;(try (have hz0_2 : w.heap.size < w2.heap.size:=(by have:=hb2.size;(try simp at this);omega)));(try (have hz1_2 : w.heap.size + 1 < w2.heap.size:=(by have:=hb2.size;(try simp at this);omega)));(try (have hz_1_2 : w1.heap.size < w2.heap.size:=(by have:=hb2.size;(try simp at this);omega))))) | (go_at_call 68;(fail_if_success (have:=w2));((with_reducible refine (S2.out _).mono ?_);rintro e w2 ⟨rfl,hb2⟩;(try (replace hb2:=below_undrew hb2));(try (replace hb2:=below_undrewN hb2));obtain ⟨hc2,hf2⟩:=bcell hb2;(try (have hz0_2 : w.heap.size < w2.heap.size:=(by have:=hb2.size;(try simp at this);omega)));(try (have hz1_2 : w.heap.size + 1 < w2.heap.size:=(by have:=hb2.size;(try simp at this);omega)));(try (have hz_1_2 : w1.heap.size < w2.heap.size:=(by have:=hb2.size;(try simp at this);omega)))))) | (go_at_call 94;((with_reducible refine (rSign_ci k k' _).mono ?_);rintro e w' ⟨rfl,rfl⟩)))
 go_ret;exact ⟨rfl,(by repeat (first | (with_reducible exact Below.refl _ _) | (with_reducible refine below_al ?_ _) | (with_reducible refine below_drewN ?_ _) | (with_reducible refine Below.drew ?_) | (with_reducible refine below_via (by assumption) ?_) | (with_reducible refine below_sc ?_ ?_ _;· (first | (simp;done) | (simp;omega) | omega))))⟩
set_option maxRecDepth 100000 in
set_option maxHeartbeats 1000000 in
theorem rCompare_n (k n f : Int) (t : ByteArray) (n' f' : Int) (t' : ByteArray) (w : World) (h3 : (k == 3) = false) (h4 : (k == 4) = false)
  (s1 : ∀ w,Calls Tryz.prog 68 #[.agg #[.int .i64 k,.int .i64 n,.int .u64 f,.string t]] w fun e w'=>e = .returned (.bool true) ∧ Below w.heap.size w w')
  (s2 : ∀ w,Calls Tryz.prog 68 #[.agg #[.int .i64 k,.int .i64 n',.int .u64 f',.string t']] w fun e w'=>e = .returned (.bool true) ∧ Below w.heap.size w w') :
  Calls Tryz.prog 71 #[.agg #[.int .i64 k,.int .i64 n,.int .u64 f,.string t],.agg #[.int .i64 k,.int .i64 n',.int .u64 f',.string t']] w fun e w'=>e = .returned (.int .i64 (Lib.compareInt n n')) ∧ Below w.heap.size w w':=by
 have S1:=Lib.hid s1;have S2:=Lib.hid s2;clear s1 s2
 go_enter Tryz.func71,Tryz.ntmps71
 go_wp2_with (first | (first | (go_at_call 68;(fail_if_success (have:=w1));((with_reducible refine (S1.out _).mono ?_);rintro e w1 ⟨rfl,hb1⟩;(try (replace hb1:=below_undrew hb1));(try (replace hb1:=below_undrewN hb1));obtain ⟨hc1,hf1⟩:=bcell hb1;(try (have hz0_1 : w.heap.size < w1.heap.size:=(by have:=hb1.size;(try simp at this);omega)));(try (have hz1_1 : w.heap.size + 1 < w1.heap.size:=(by have:=hb1.size;(try simp at this);omega))))) | (go_at_call 68;(fail_if_success (have:=w1));((with_reducible refine (S2.out _).mono ?_);rintro e w1 ⟨rfl,hb1⟩;(try (replace hb1:=below_undrew hb1));(try (replace hb1:=below_undrewN hb1));obtain ⟨hc1,hf1⟩:=bcell hb1;(try (have hz0_1 : w.heap.size < w1.heap.size:=(by have:=hb1.size;(try simp at this);omega)));(try (have hz1_1 : w.heap.size + 1 < w1.heap.size:=(by have:=hb1.size;(try simp at this);omega))))) | (go_at_call 68;(fail_if_success (have:=w2));((with_reducible refine (S1.out _).mono ?_);rintro e w2 ⟨rfl,hb2⟩;(try (replace hb2:=below_undrew hb2));(try (replace hb2:=below_undrewN hb2));obtain ⟨hc2,hf2⟩:=bcell hb2;(try (have hz0_2 : w.heap.size < w2.heap.size:=(by have:=hb2.size;(try simp at this);omega)));(try (have hz1_2 : w.heap.size + 1 < w2.heap.size:=(by have:=hb2.size;(try simp at this);omega)));(try (have hz_1_2 : w1.heap.size < w2.heap.size:=(by have:=hb2.size;(try simp at this);omega))))) | (go_at_call 68;(fail_if_success (have:=w2));((with_reducible refine (S2.out _).mono ?_);rintro e w2 ⟨rfl,hb2⟩;(try (replace hb2:=below_undrew hb2));(try (replace hb2:=below_undrewN hb2));obtain ⟨hc2,hf2⟩:=bcell hb2;(try (have hz0_2 : w.heap.size < w2.heap.size:=(by have:=hb2.size;(try simp at this);omega)));(try (have hz1_2 : w.heap.size + 1 < w2.heap.size:=(by have:=hb2.size;(try simp at this);omega)));(try (have hz_1_2 : w1.heap.size < w2.heap.size:=(by have:=hb2.size;(try simp at this);omega)))))) | (go_at_call 94;((with_reducible refine (rSign_ci n n' _).mono ?_);rintro e w' ⟨rfl,rfl⟩)))
 go_ret;exact ⟨rfl,(by repeat (first | (with_reducible exact Below.refl _ _) | (with_reducible refine below_al ?_ _) | (with_reducible refine below_drewN ?_ _) | (with_reducible refine Below.drew ?_) | (with_reducible refine below_via (by assumption) ?_) | (with_reducible refine below_sc ?_ ?_ _;· (first | (simp;done) | (simp;omega) | omega))))⟩
set_option maxRecDepth 100000 in
set_option maxHeartbeats 1000000 in
theorem rCompare_t (n f : Int) (t : ByteArray) (n' f' : Int) (t' : ByteArray) (w : World)
  (s1 : ∀ w,Calls Tryz.prog 68 #[.agg #[.int .i64 4,.int .i64 n,.int .u64 f,.string t]] w fun e w'=>e = .returned (.bool true) ∧ Below w.heap.size w w')
  (s2 : ∀ w,Calls Tryz.prog 68 #[.agg #[.int .i64 4,.int .i64 n',.int .u64 f',.string t']] w fun e w'=>e = .returned (.bool true) ∧ Below w.heap.size w w') :
  Calls Tryz.prog 71 #[.agg #[.int .i64 4,.int .i64 n,.int .u64 f,.string t],.agg #[.int .i64 4,.int .i64 n',.int .u64 f',.string t']] w fun e w'=>e = .returned (.int .i64 (Lib.compareBytes t.data.toList t'.data.toList)) ∧ Below w.heap.size w w':=by
 have S1:=Lib.hid s1;have S2:=Lib.hid s2;clear s1 s2
 go_enter Tryz.func71,Tryz.ntmps71
 go_wp2_with (first | (first | (go_at_call 68;(fail_if_success (have:=w1));((with_reducible refine (S1.out _).mono ?_);rintro e w1 ⟨rfl,hb1⟩;(try (replace hb1:=below_undrew hb1));(try (replace hb1:=below_undrewN hb1));obtain ⟨hc1,hf1⟩:=bcell hb1;(try (have hz0_1 : w.heap.size < w1.heap.size:=(by have:=hb1.size;(try simp at this);omega)));(try (have hz1_1 : w.heap.size + 1 < w1.heap.size:=(by have:=hb1.size;(try simp at this);omega))))) | (go_at_call 68;(fail_if_success (have:=w1));((with_reducible refine (S2.out _).mono ?_);rintro e w1 ⟨rfl,hb1⟩;(try (replace hb1:=below_undrew hb1));(try (replace hb1:=below_undrewN hb1));obtain ⟨hc1,hf1⟩:=bcell hb1;(try (have hz0_1 : w.heap.size < w1.heap.size:=(by have:=hb1.size;(try simp at this);omega)));(try (have hz1_1 : w.heap.size + 1 < w1.heap.size:=(by have:=hb1.size;(try simp at this);omega))))) | (go_at_call 68;(fail_if_success (have:=w2));((with_reducible refine (S1.out _).mono ?_);rintro e w2 ⟨rfl,hb2⟩;(try (replace hb2:=below_undrew hb2));(try (replace hb2:=below_undrewN hb2));obtain ⟨hc2,hf2⟩:=bcell hb2;(try (have hz0_2 : w.heap.size < w2.heap.size:=(by have:=hb2.size;(try simp at this);omega)));(try (have hz1_2 : w.heap.size + 1 < w2.heap.size:=(by have:=hb2.size;(try simp at this);omega)));(try (have hz_1_2 : w1.heap.size < w2.heap.size:=(by have:=hb2.size;(try simp at this);omega))))) | (go_at_call 68;(fail_if_success (have:=w2));((with_reducible refine (S2.out _).mono ?_);rintro e w2 ⟨rfl,hb2⟩;(try (replace hb2:=below_undrew hb2));(try (replace hb2:=below_undrewN hb2));obtain ⟨hc2,hf2⟩:=bcell hb2;(try (have hz0_2 : w.heap.size < w2.heap.size:=(by have:=hb2.size;(try simp at this);omega)));(try (have hz1_2 : w.heap.size + 1 < w2.heap.size:=(by have:=hb2.size;(try simp at this);omega)));(try (have hz_1_2 : w1.heap.size < w2.heap.size:=(by have:=hb2.size;(try simp at this);omega)))))) | (go_at_call 94;((with_reducible refine (rSign_tx' t t' _).mono ?_);rintro e w' ⟨rfl,rfl⟩)))
 go_ret;exact ⟨rfl,(by repeat (first | (with_reducible exact Below.refl _ _) | (with_reducible refine below_al ?_ _) | (with_reducible refine below_drewN ?_ _) | (with_reducible refine Below.drew ?_) | (with_reducible refine below_via (by assumption) ?_) | (with_reducible refine below_sc ?_ ?_ _;· (first | (simp;done) | (simp;omega) | omega))))⟩
set_option maxRecDepth 100000 in
set_option maxHeartbeats 1000000 in
theorem rCompare_f (n f : Int) (t : ByteArray) (n' f' : Int) (t' : ByteArray) (w : World) (hf : U64 f) (hf' : U64 f')
  (s1 : ∀ w,Calls Tryz.prog 68 #[.agg #[.int .i64 3,.int .i64 n,.int .u64 f,.string t]] w fun e w'=>e = .returned (.bool true) ∧ Below w.heap.size w w')
  (s2 : ∀ w,Calls Tryz.prog 68 #[.agg #[.int .i64 3,.int .i64 n',.int .u64 f',.string t']] w fun e w'=>e = .returned (.bool true) ∧ Below w.heap.size w w') :
  Calls Tryz.prog 71 #[.agg #[.int .i64 3,.int .i64 n,.int .u64 f,.string t],.agg #[.int .i64 3,.int .i64 n',.int .u64 f',.string t']] w fun e w'=>e = .returned (.int .i64 (Lib.compareInt (rKey f) (rKey f'))) ∧ Below w.heap.size w w':=by
 have S1:=Lib.hid s1;have S2:=Lib.hid s2;clear s1 s2
 have K1:=Lib.hid (fun w=>rKey_q f w hf);have K2:=Lib.hid (fun w=>rKey_q f' w hf');clear hf hf'
 go_enter Tryz.func71,Tryz.ntmps71
 go_wp2_with (first | (first | (go_at_call 68;(fail_if_success (have:=w1));((with_reducible refine (S1.out _).mono ?_);rintro e w1 ⟨rfl,hb1⟩;(try (replace hb1:=below_undrew hb1));(try (replace hb1:=below_undrewN hb1));obtain ⟨hc1,hf1⟩:=bcell hb1;(try (have hz0_1 : w.heap.size < w1.heap.size:=(by have:=hb1.size;(try simp at this);omega)));(try (have hz1_1 : w.heap.size + 1 < w1.heap.size:=(by have:=hb1.size;(try simp at this);omega))))) | (go_at_call 68;(fail_if_success (have:=w1));((with_reducible refine (S2.out _).mono ?_);rintro e w1 ⟨rfl,hb1⟩;(try (replace hb1:=below_undrew hb1));(try (replace hb1:=below_undrewN hb1));obtain ⟨hc1,hf1⟩:=bcell hb1;(try (have hz0_1 : w.heap.size < w1.heap.size:=(by have:=hb1.size;(try simp at this);omega)));(try (have hz1_1 : w.heap.size + 1 < w1.heap.size:=(by have:=hb1.size;(try simp at this);omega))))) | (go_at_call 68;(fail_if_success (have:=w2));((with_reducible refine (S1.out _).mono ?_);rintro e w2 ⟨rfl,hb2⟩;(try (replace hb2:=below_undrew hb2));(try (replace hb2:=below_undrewN hb2));obtain ⟨hc2,hf2⟩:=bcell hb2;(try (have hz0_2 : w.heap.size < w2.heap.size:=(by have:=hb2.size;(try simp at this);omega)));(try (have hz1_2 : w.heap.size + 1 < w2.heap.size:=(by have:=hb2.size;(try simp at this);omega)));(try (have hz_1_2 : w1.heap.size < w2.heap.size:=(by have:=hb2.size;(try simp at this);omega))))) | (go_at_call 68;(fail_if_success (have:=w2));((with_reducible refine (S2.out _).mono ?_);rintro e w2 ⟨rfl,hb2⟩;(try (replace hb2:=below_undrew hb2));(try (replace hb2:=below_undrewN hb2));obtain ⟨hc2,hf2⟩:=bcell hb2;(try (have hz0_2 : w.heap.size < w2.heap.size:=(by have:=hb2.size;(try simp at this);omega)));(try (have hz1_2 : w.heap.size + 1 < w2.heap.size:=(by have:=hb2.size;(try simp at this);omega)));(try (have hz_1_2 : w1.heap.size < w2.heap.size:=(by have:=hb2.size;(try simp at this);omega)))))))
 go_quiet (first
  | (go_at_call 95;with_reducible exact Calls.quiet_of_same (K1.out _))
  | (go_at_call 95;with_reducible exact Calls.quiet_of_same (K2.out _))
  | (go_at_call 94;with_reducible exact Calls.quiet_of_same ((rSign_ci (rKey f) (rKey f') _).mono fun _ _ ⟨a,b⟩=>⟨a,b.symm⟩)))
 go_wp2_with fail
 go_ret;exact ⟨rfl,(by repeat (first | (with_reducible exact Below.refl _ _) | (with_reducible refine below_al ?_ _) | (with_reducible refine below_drewN ?_ _) | (with_reducible refine Below.drew ?_) | (with_reducible refine below_via (by assumption) ?_) | (with_reducible refine below_sc ?_ ?_ _;· (first | (simp;done) | (simp;omega) | omega))))⟩
theorem rCompare_c (k n f : Int) (t : ByteArray) (k' n' f' : Int) (t' : ByteArray) (w : World) (hf : U64 f) (hf' : U64 f') : Calls Tryz.prog 71 #[.agg #[.int .i64 k,.int .i64 n,.int .u64 f,.string t],.agg #[.int .i64 k',.int .i64 n',.int .u64 f',.string t']] w fun e w'=>e = .returned (.int .i64 (rCmp k n f t k' n' f' t')) ∧ Below w.heap.size w w':=by
 have S1:=fun w=>rSound_c k n f t w hf
 have S2:=fun w=>rSound_c k' n' f' t' w hf'
 cases hb : (soundV k n f t && soundV k' n' f' t') with
 | false =>
  have : rCmp k n f t k' n' f' t' = 0:=by unfold rCmp;rw [← Bool.not_and,hb];rfl
  rw [this];exact rCompare_0 k n f t k' n' f' t' w _ _ hb S1 S2
 | true =>
  obtain ⟨h1,h2⟩:=Bool.and_eq_true_iff.1 hb
  rw [h1] at S1;rw [h2] at S2
  cases hk : (k == k') with
  | false =>
   have : rCmp k n f t k' n' f' t' = Lib.compareInt k k':=by simp [rCmp,h1,h2,bne,hk]
   rw [this];exact rCompare_k k n f t k' n' f' t' w hk S1 S2
  | true =>
   obtain rfl : k = k':=by simpa using hk
   cases h3 : (k == 3) with
   | true =>
    obtain rfl : k = 3:=by simpa using h3
    have : rCmp 3 n f t 3 n' f' t' = Lib.compareInt (rKey f) (rKey f'):=by simp [rCmp,h1,h2]
    rw [this];exact rCompare_f n f t n' f' t' w hf hf' S1 S2
   | false =>
    cases h4 : (k == 4) with
    | true =>
     obtain rfl : k = 4:=by simpa using h4
     have : rCmp 4 n f t 4 n' f' t' = Lib.compareBytes t.data.toList t'.data.toList:=by simp [rCmp,h1,h2]
     rw [this];exact rCompare_t n f t n' f' t' w S1 S2
    | false =>
     have : rCmp k n f t k n' f' t' = Lib.compareInt n n':=by simp [rCmp,h1,h2,h3,h4]
     rw [this];exact rCompare_n k n f t n' f' t' w h3 h4 S1 S2
end Go.Proofs.YthpkjkcfhipjhaaGreatDoor
end
section
namespace Go.Proofs.YthpkjkcfhipjhaaGreatDoor
set_option linter.unusedVariables false
set_option linter.unusedSimpArgs false
open Go.RowKit
set_option maxRecDepth 100000 in
set_option maxHeartbeats 2000000 in
theorem show_text_c (t : ByteArray) (w : World) (ht : t.size ≤ 4096) (hs : soundV 4 0 0 t = true) : Calls Tryz.prog 72 #[.agg #[.int .i64 4,.int .i64 0,.int .u64 0,.string t]] w fun e w'=>e = .returned (.string ⟨(quotedL t.data.toList).toArray⟩) ∧ Below w.heap.size w w':=by
 go_enter Tryz.func72,Tryz.ntmps72
 go_wp2_with (first | (go_at_call 67;refine (sound_c _ _ _ _ _ ⟨by decide,by decide⟩).mono ?_;rintro e w' ⟨rfl,hb⟩;(try (replace hb:=below_undrew hb));(try (replace hb:=below_undrewN hb));obtain ⟨hc,hf⟩:=bcell hb;(try (have hz0 : w.heap.size < w'.heap.size:=(by have:=hb.size;(try simp at this);omega)));(try (have hz1 : w.heap.size + 1 < w'.heap.size:=(by have:=hb.size;(try simp at this);omega)));(try (have hz2 : w.heap.size + 2 < w'.heap.size:=(by have:=hb.size;(try simp at this);omega)));(try (have hz3 : w.heap.size + 3 < w'.heap.size:=(by have:=hb.size;(try simp at this);omega)))) | (go_at_call 97;refine (quoted_c _ _ ht).mono ?_;rintro e w' ⟨rfl,hb⟩;(try (replace hb:=below_undrew hb));(try (replace hb:=below_undrewN hb));obtain ⟨hc,hf⟩:=bcell hb;(try (have hz0 : w.heap.size < w'.heap.size:=(by have:=hb.size;(try simp at this);omega)));(try (have hz1 : w.heap.size + 1 < w'.heap.size:=(by have:=hb.size;(try simp at this);omega)));(try (have hz2 : w.heap.size + 2 < w'.heap.size:=(by have:=hb.size;(try simp at this);omega)));(try (have hz3 : w.heap.size + 3 < w'.heap.size:=(by have:=hb.size;(try simp at this);omega)))))
 exact bodyPost_ret (v:=.string ⟨(quotedL t.data.toList).toArray⟩) (by simp [results,Tryz.results72,go_sem, *]) rfl ⟨rfl,(by repeat (first | (with_reducible exact Below.refl _ _) | (with_reducible refine below_al ?_ _) | (with_reducible refine below_drewN ?_ _) | (with_reducible refine Below.drew ?_) | (with_reducible refine below_via (by assumption) ?_) | (with_reducible refine below_sc ?_ ?_ _;· (first | (simp;done) | (simp;omega) | omega))))⟩
end Go.Proofs.YthpkjkcfhipjhaaGreatDoor
end
