/- a part of the claim: what the card leans on, out of the texts ZW4, ZW5, ZW6, ZW7, ZW8, ZA1, ZA2, ZA3, ZP5, ZQ1, ZT1, ZT2, ZT3, ZT4 (put together by wip/tools/shake.py). -/
import Derived.Test.YthpkjkcfhipjhaaGreatDoorSS2
import Derived.Test.YthpkjkcfhipjhaaGreatDoorSS4
import Derived.Test.YthpkjkcfhipjhaaGreatDoorSS8
import Derived.Test.YthpkjkcfhipjhaaGreatDoorSS9
import Derived.Test.YthpkjkcfhipjhaaGreatDoorSS10
import Derived.BigQuiet
import Derived.Deep.QuietTactic
import Derived.Laws.Externs
import Derived.Laws.BitsLemmas
import Derived.Lib.SliceRun
import Derived.Laws.CopyRow
section
namespace Go.Proofs.YthpkjkcfhipjhaaGreatDoor
set_option linter.unusedVariables false
set_option linter.unusedSimpArgs false
open Go.RowKit Go.Proofs.YthpkjkcfhipjhaaGreatDoorW.PrintWords Go.Proofs.YthpkjkcfhipjhaaGreatDoorW.PrintLast PRW PZA
theorem zregion {P : Program} {C : World → Prop} {id : Nat} {Q : Exit → Act → World → Prop} {a : Act} {w : World} {l : List Oper} (hm : P.follows .mixedOrders = true) (hB : Region.lexB .any l.toArray = true) (hC : C { w with drawn:=w.drawn + 1 })
  (h : wpQuiet P l.toArray C (fun a'=>∀ w',C w' → Q .normal a' w') l a) : (Code.region id l.toArray true).wp P Q a w :=
 wp_region_quiet hm hB hC (by simpa using h)
/-- byRow at entries as they lie -/
theorem byRow_c {w0 : World} (e f : Ent w0) (W : World) (h : Below w0.heap.size w0 W) :
  Calls Tryz.prog 42 #[.agg #[.slice e.A e.x.f0.length e.c,.int .i64 e.x.f1],.agg #[.slice f.A f.x.f0.length f.c,.int .i64 f.x.f1]] W fun r w'=>r = .returned (.int .i64 (Ent.cf e f)) ∧ Below W.heap.size W w' :=
 PZA.zset_byRow.calls _ _ _ _ _ _ _ _ _ W (Kd.C_below e.lies h) e.le (Kd.C_below f.lies h) f.le (by
  unfold PZA.zset_byRow.f xRowCompare.f
  rw [if_pos ⟨e.rng,f.rng⟩];rfl)
theorem byRow_s {w0 : World} {b : Nat} {ys : List (Ent w0)} (e f : Ent w0) (W : World) (h : SB w0 b ys W) :
  Calls Tryz.prog 42 #[.agg #[.slice e.A e.x.f0.length e.c,.int .i64 e.x.f1],.agg #[.slice f.A f.x.f0.length f.c,.int .i64 f.x.f1]] W fun r w'=>r = .returned (.int .i64 (Ent.cf e f)) ∧ SB w0 b ys w' :=
 (byRow_c e f W h.bel).mono fun _ _ ⟨a,k⟩=>⟨a,h.below k⟩
theorem enter_byRow : ∀ args w,(callFunc 42 args).run Tryz.prog w = .ok (.enter 42 args) w:=by
 intro args w
 simp [go_sem,Tryz.func42]
abbrev byRowV : Value:=.func (.func 42) #[] #[]
set_option maxRecDepth 1000000 in
set_option maxHeartbeats 8000000 in
theorem insSort_c {w0 : World} (b cap : Nat) (xs : List (Ent w0)) (w : World) (h : SB w0 b xs w) (a e : Nat) (hae : a ≤ e) (hl : e ≤ xs.length) (hs : xs.length ≤ 1000000) :
    Calls Tryz.prog 100 #[.slice (some ⟨b,0,none⟩) xs.length cap,.int .i64 a,.int .i64 e,byRowV] w fun r w'=>r = .returned (.tuple #[]) ∧ ∃ ys,SB w0 b ys w' ∧ Srt (leC Ent.cf) a e ys ∧ Moved a e xs ys:=by
  have hu:=Tryz.underlying48
  have eg:=enter_byRow
  have HS:=hidF h
  clear h
  have v0 : IntKind.i64.wrap ((a : Int) + 1) = ((a + 1 : Nat) : Int):=by rw [IntKind.wrap_i64];omega
  go_enter Tryz.func100,Tryz.ntmps100
  go_wp2
  go_loopw [8] (fun v wr=>∃ (i : Nat) (ys : List (Ent w0)),v = Value.int .i64 i ∧ a < i ∧ i ≤ e + 1 ∧ SB w0 b ys wr ∧ Hid (Srt (leC Ent.cf) a (min i e) ys) ∧ Hid (Moved a e xs ys)) (fun v _=>e + 1 - natOf v)
  case atStart=>exact ⟨a + 1,xs,rfl,by omega,by omega,HS.out,hidF (srt_one _ _ _ _ (by omega)),hidF (Moved.refl _ _ _)⟩
  case round =>
    obtain ⟨i,ys,rfl,hai,hie,HB,HR,HM⟩:=hrel
    have hlen:=HM.out.len
    by_cases hlt : i < e
    · have hd : decide ((i : Int) < (e : Int)) = true:=decide_eq_true (by omega)
      have HB2:=hidF HB
      clear HB
      go_wp2
      go_loopw [9] (fun v wr=>∃ (j : Nat) (zs : List (Ent w0)),v = Value.int .i64 j ∧ a ≤ j ∧ j ≤ i ∧ SB w0 b zs wr ∧ Hid (Ins (leC Ent.cf) a i j zs) ∧ Hid (Moved a e xs zs)) (fun v _=>natOf v)
      case atStart=>exact ⟨i,ys,rfl,by omega,by omega,HB2.out,hidF (Ins.start (by have:=HR.out;rwa [Nat.min_eq_left (by omega)] at this)),HM⟩
      case round =>
        obtain ⟨j,zs,rfl,haj,hji,HB,HI,HN⟩:=hrel
        have hlz:=HN.out.len
        by_cases hja : a < j
        · obtain ⟨p,rfl⟩ : ∃ p,j = p + 1:=⟨j - 1,by omega⟩
          obtain ⟨q,hq⟩ : ∃ q,p + 1 = q:=⟨_,rfl⟩
          rw [hq] at HI
          have hp1 : p < zs.length:=by omega
          have hq1 : q < zs.length:=by omega
          have g1 : decide ((q : Int) > (a : Int)) = true:=decide_eq_true (by omega)
          have g1' : decide ((a : Int) < (q : Int)) = true:=decide_eq_true (by omega)
          have g2 : (a : Int) < (q : Int):=by omega
          have g3 : (q : Int) < (xs.length : Int):=by omega
          have g4 : (p : Int) < (xs.length : Int):=by omega
          have v1 : IntKind.i64.wrap ((q : Int) - 1) = (p : Int):=by rw [IntKind.wrap_i64];omega
          have b1 : q < xs.length:=by omega
          have b2 : p < xs.length:=by omega
          have hcast : ((p + 1 : Nat) : Int) = (q : Int):=by omega
          rw [hcast]
          have HM2:=hidF (HN.out.trans (Moved.swap (a:=a) (b:=e) zs q p (by omega) (by omega) (by omega) (by omega) (by omega)))
          obtain ⟨xq,hxq⟩ : ∃ x,gx zs q = x:=⟨_,rfl⟩
          obtain ⟨xp,hxp⟩ : ∃ x,gx zs p = x:=⟨_,rfl⟩
          by_cases hlt2 : Ent.cf xq xp < 0
          · have HI2:=hidF (Ins.step (j:=p) (by rw [hq];exact HI.out) (by omega) (by omega) (by omega) (by rw [hq,hxq,hxp];show Ent.cf xq xp ≤ 0;omega))
            rw [hq] at HI2
            have hc : decide (Ent.cf xq xp < 0) = true:=decide_eq_true hlt2
            have hC : SB w0 b zs { wr with drawn:=wr.drawn + 1 }:=HB.drew
            clear HB
            go_wp2_with fail
            refine zregion (C:=SB w0 b zs) (by kernel_rfl) (by kernel_rfl) hC ?_
            clear hC
            repeat (first
              | go_big_quiet_skip
              | (go_big_quiet_want;first
                  | (go_big_quiet_op;go_big_quiet_on)
                  | (apply Exists.intro
                     refine ⟨fun w' hw'=>?_, ?_⟩
                     · (have HC:=Lib.hid hw'
                        have i0:=hw'.c0 q hq1
                        have i1:=hw'.c1 q hq1
                        have j0:=hw'.c0 p hp1
                        have j1:=hw'.c1 p hp1
                        rw [hxq] at i0 i1
                        rw [hxp] at j0 j1
                        clear hw'
                        go_simp
                        first
                          | exact rfl
                          | ((with_reducible refine (byRow_s _ _ _ HC.out).mono ?_);rintro e w'' ⟨rfl,hb⟩;exact ⟨rfl,hb⟩))
                     go_simp
                     go_big_quiet_on)))
            refine wpQuiet_nil ?_
            intro w' hw'
            have i0:=hw'.c0 q hq1
            have i1:=hw'.c1 q hq1
            have j0:=hw'.c0 p hp1
            have j1:=hw'.c1 p hp1
            have f0:=hw'.fr
            have HSW:=hidF (hw'.swap q p hq1 hp1)
            rw [hxq] at i0 i1 HSW
            rw [hxp] at j0 j1 HSW
            clear hw'
            go_wp2_with fail
            go_region
            all_goals go_wp2
            go_roundw
            case rel=>exact ⟨p,swp zs q p,rfl,by omega,by omega,HSW.out.drew,HI2,HM2⟩
            case measure=>simp [natOf];omega
          · have hc : decide (Ent.cf xq xp < 0) = false:=decide_eq_false hlt2
            have HD:=hidF (Ins.done ent_ord.tr HI.out (.inr ⟨by omega,by rw [show q - 1 = p by omega,hxq,hxp];exact ent_ord.le_of hlt2⟩))
            have hC : SB w0 b zs { wr with drawn:=wr.drawn + 1 }:=HB.drew
            have v5 : IntKind.i64.wrap ((i : Int) + 1) = ((i + 1 : Nat) : Int):=by rw [IntKind.wrap_i64];omega
            clear HB
            go_wp2_with fail
            refine zregion (C:=SB w0 b zs) (by kernel_rfl) (by kernel_rfl) hC ?_
            clear hC
            repeat (first
              | go_big_quiet_skip
              | (go_big_quiet_want;first
                  | (go_big_quiet_op;go_big_quiet_on)
                  | (apply Exists.intro
                     refine ⟨fun w' hw'=>?_, ?_⟩
                     · (have HC:=Lib.hid hw'
                        have i0:=hw'.c0 q hq1
                        have i1:=hw'.c1 q hq1
                        have j0:=hw'.c0 p hp1
                        have j1:=hw'.c1 p hp1
                        rw [hxq] at i0 i1
                        rw [hxp] at j0 j1
                        clear hw'
                        go_simp
                        first
                          | exact rfl
                          | ((with_reducible refine (byRow_s _ _ _ HC.out).mono ?_);rintro e w'' ⟨rfl,hb⟩;exact ⟨rfl,hb⟩))
                     go_simp
                     go_big_quiet_on)))
            refine wpQuiet_nil ?_
            intro w' hw'
            go_wp2
            go_roundw
            case rel=>exact ⟨i + 1,zs,rfl,by omega,by omega,hw',by rw [Nat.min_eq_left (by omega)];exact HD,HN⟩
            case measure=>simp [natOf];omega
        · have g1 : decide ((j : Int) > (a : Int)) = false:=decide_eq_false (by omega)
          have g1' : decide ((a : Int) < (j : Int)) = false:=decide_eq_false (by omega)
          have g2 : ¬ (a : Int) < (j : Int):=by omega
          have HD:=hidF (Ins.done ent_ord.tr HI.out (.inl (by omega)))
          have hC : SB w0 b zs { wr with drawn:=wr.drawn + 1 }:=HB.drew
          have v5 : IntKind.i64.wrap ((i : Int) + 1) = ((i + 1 : Nat) : Int):=by rw [IntKind.wrap_i64];omega
          clear HB
          go_wp2_with fail
          refine zregion (C:=SB w0 b zs) (by kernel_rfl) (by kernel_rfl) hC ?_
          clear hC
          repeat (first
            | go_big_quiet_skip
            | (go_big_quiet_want;first
                | (go_big_quiet_op;go_big_quiet_on)
                | (apply Exists.intro
                   refine ⟨fun w' hw'=>?_, ?_⟩
                   · (have HC:=Lib.hid hw'
                      clear hw'
                      go_simp
                      exact rfl)
                   go_simp
                   go_big_quiet_on)))
          refine wpQuiet_nil ?_
          intro w' hw'
          go_wp2
          go_roundw
          case rel=>exact ⟨i + 1,zs,rfl,by omega,by omega,hw',by rw [Nat.min_eq_left (by omega)];exact HD,HN⟩
          case measure=>simp [natOf];omega
    · have hce : e ≤ i:=by omega
      have hd : decide ((i : Int) < (e : Int)) = false:=decide_eq_false (by omega)
      go_wp2
      go_end0
      exact ⟨rfl,ys,HB,by have:=HR.out;rwa [Nat.min_eq_right hce] at this,HM.out⟩
end Go.Proofs.YthpkjkcfhipjhaaGreatDoor
end
section
namespace Go.Proofs.YthpkjkcfhipjhaaGreatDoor
set_option linter.unusedVariables false
set_option linter.unusedSimpArgs false
open Go.RowKit Go.Proofs.YthpkjkcfhipjhaaGreatDoorW.PrintWords Go.Proofs.YthpkjkcfhipjhaaGreatDoorW.PrintLast PRW PZA
set_option maxRecDepth 1000000 in
set_option maxHeartbeats 8000000 in
theorem sym1_c {w0 : World} (b cap : Nat) (xs : List (Ent w0)) (w : World) (h : SB w0 b xs w) (a m e : Nat) (ham : a + 1 = m) (hme : m < e) (hl : e ≤ xs.length) (hs : xs.length ≤ 1000000) (h2 : Srt (leC Ent.cf) m e xs) :
    Calls Tryz.prog 101 #[.slice (some ⟨b,0,none⟩) xs.length cap,.int .i64 a,.int .i64 m,.int .i64 e,byRowV] w fun r w'=>r = .returned (.tuple #[]) ∧ ∃ ys,SB w0 b ys w' ∧ Srt (leC Ent.cf) a e ys ∧ Moved a e xs ys:=by
  have hu:=Tryz.underlying48
  have eg:=enter_byRow
  have HS:=hidF h
  have H2:=hidF h2
  clear h h2
  have v0 : IntKind.i64.wrap ((m : Int) - (a : Int)) = 1:=by rw [IntKind.wrap_i64];omega
  have ha : a < xs.length:=by omega
  have haI : (a : Int) < (xs.length : Int):=by omega
  obtain ⟨xa,hxa⟩ : ∃ x,gx xs a = x:=⟨_,rfl⟩
  go_enter Tryz.func101,Tryz.ntmps101
  go_wp2
  go_loopw [10,11] (fun v10 v11 wr=>∃ (i j : Nat),v10 = Value.int .i64 i ∧ v11 = Value.int .i64 j ∧ SB w0 b xs wr ∧ Hid (BS m e i j (fun c=>Ent.cf (gx xs c) (gx xs a) < 0))) (fun v10 v11 _=>natOf v11 - natOf v10)
  case atStart=>exact ⟨m,e,rfl,rfl,HS.out,hidF (BS.start (by omega))⟩
  case round =>
    obtain ⟨i,j,rfl,rfl,HB,HP⟩:=hrel
    have p0:=HP.out.h0
    have p1:=HP.out.h1
    have p2:=HP.out.h2
    by_cases hij : i < j
    · have hd : decide ((i : Int) < (j : Int)) = true:=decide_eq_true (by omega)
      have g0 : (i : Int) < (j : Int):=by omega
      obtain ⟨ij,hsum⟩ : ∃ s,i + j = s:=⟨_,rfl⟩
      obtain ⟨c,hc⟩ : ∃ c,ij / 2 = c:=⟨_,rfl⟩
      have v1 : IntKind.i64.wrap ((i : Int) + (j : Int)) = (ij : Int):=by rw [IntKind.wrap_i64];omega
      have v2 : IntKind.u64.wrap (ij : Int) = (ij : Int):=by rw [IntKind.wrap_u64];omega
      have v3 : (ij : Int) / 2 = (c : Int):=by omega
      have v4 : IntKind.i64.wrap (c : Int) = (c : Int):=by rw [IntKind.wrap_i64];omega
      have v5 : IntKind.u64.wrap (c : Int) = (c : Int):=by rw [IntKind.wrap_u64];omega
      have v6 : IntKind.i64.wrap ((c : Int) + 1) = ((c + 1 : Nat) : Int):=by rw [IntKind.wrap_i64];omega
      have c1 : c < xs.length:=by omega
      have c2 : (c : Int) < (xs.length : Int):=by omega
      obtain ⟨xc,hxc⟩ : ∃ x,gx xs c = x:=⟨_,rfl⟩
      have hC : SB w0 b xs { wr with drawn:=wr.drawn + 1 }:=HB.drew
      clear HB
      by_cases hlt : Ent.cf xc xa < 0
      · have HP2:=hidF (HP.out.up (c:=c) (by omega) (by omega) (by show Ent.cf (gx xs c) (gx xs a) < 0;rw [hxc,hxa];exact hlt))
        have hcd : decide (Ent.cf xc xa < 0) = true:=decide_eq_true hlt
        clear p0 p1 p2
        go_wp2_with fail
        refine zregion (C:=SB w0 b xs) (by kernel_rfl) (by kernel_rfl) hC ?_
        clear hC
        repeat (first
          | go_big_quiet_skip
          | (go_big_quiet_want;first
              | (go_big_quiet_op;go_big_quiet_on)
              | (apply Exists.intro
                 refine ⟨fun w' hw'=>?_, ?_⟩
                 · (have HC:=Lib.hid hw'
                    have i0:=hw'.c0 c c1
                    have i1:=hw'.c1 c c1
                    have j0:=hw'.c0 a ha
                    have j1:=hw'.c1 a ha
                    rw [hxc] at i0 i1
                    rw [hxa] at j0 j1
                    clear hw'
                    go_simp
                    first
                      | exact rfl
                      | ((with_reducible refine (byRow_s _ _ _ HC.out).mono ?_);rintro e w'' ⟨rfl,hb⟩;exact ⟨rfl,hb⟩))
                 go_simp
                 go_big_quiet_on)))
        refine wpQuiet_nil ?_
        intro w' hw'
        go_wp2
        go_roundw
        case rel=>exact ⟨c + 1,j,rfl,rfl,hw',HP2⟩
        case measure=>simp [natOf];omega
      · have HP2:=hidF (HP.out.down (c:=c) (by omega) (by omega) (by show ¬ Ent.cf (gx xs c) (gx xs a) < 0;rw [hxc,hxa];exact hlt))
        have hcd : decide (Ent.cf xc xa < 0) = false:=decide_eq_false hlt
        clear p0 p1 p2
        go_wp2_with fail
        refine zregion (C:=SB w0 b xs) (by kernel_rfl) (by kernel_rfl) hC ?_
        clear hC
        repeat (first
          | go_big_quiet_skip
          | (go_big_quiet_want;first
              | (go_big_quiet_op;go_big_quiet_on)
              | (apply Exists.intro
                 refine ⟨fun w' hw'=>?_, ?_⟩
                 · (have HC:=Lib.hid hw'
                    have i0:=hw'.c0 c c1
                    have i1:=hw'.c1 c c1
                    have j0:=hw'.c0 a ha
                    have j1:=hw'.c1 a ha
                    rw [hxc] at i0 i1
                    rw [hxa] at j0 j1
                    clear hw'
                    go_simp
                    first
                      | exact rfl
                      | ((with_reducible refine (byRow_s _ _ _ HC.out).mono ?_);rintro e w'' ⟨rfl,hb⟩;exact ⟨rfl,hb⟩))
                 go_simp
                 go_big_quiet_on)))
        refine wpQuiet_nil ?_
        intro w' hw'
        go_wp2
        go_roundw
        case rel=>exact ⟨i,c,rfl,rfl,hw',HP2⟩
        case measure=>simp [natOf];omega
    · have hd : decide ((i : Int) < (j : Int)) = false:=decide_eq_false (by omega)
      have g0 : ¬ (i : Int) < (j : Int):=by omega
      have HQ:=hidF (⟨HP.out.lo,by have:=HP.out.hi;rwa [show j = i by omega] at this⟩ : (m < i → Ent.cf (gx xs (i - 1)) (gx xs a) < 0) ∧ (i < e → ¬ Ent.cf (gx xs i) (gx xs a) < 0))
      have v1 : IntKind.i64.wrap ((i : Int) - 1) = ((i - 1 : Nat) : Int):=by rw [IntKind.wrap_i64];omega
      have HB2:=hidF HB
      clear HB
      go_wp2
      go_loopw [13] (fun v wr=>∃ (k : Nat) (ys : List (Ent w0)),v = Value.int .i64 k ∧ a ≤ k ∧ k ≤ i - 1 ∧ SB w0 b ys wr ∧ Hid (UpTo a k xs ys) ∧ Hid (Moved a e xs ys)) (fun v _=>i - natOf v)
      case atStart=>exact ⟨a,xs,rfl,by omega,by omega,HB2.out,hidF (UpTo.start _ _),hidF (Moved.refl _ _ _)⟩
      case round =>
        obtain ⟨k,ys,rfl,hak,hki,HB,HU,HM⟩:=hrel
        have hlen:=HM.out.len
        by_cases hk : k < i - 1
        · have hd2 : decide ((k : Int) < ((i - 1 : Nat) : Int)) = true:=decide_eq_true (by omega)
          have g2 : (k : Int) < ((i - 1 : Nat) : Int):=by omega
          obtain ⟨q,hq⟩ : ∃ q,k + 1 = q:=⟨_,rfl⟩
          have v2 : IntKind.i64.wrap ((k : Int) + 1) = (q : Int):=by rw [IntKind.wrap_i64];omega
          have hk1 : k < ys.length:=by omega
          have hq1 : q < ys.length:=by omega
          have b1 : k < xs.length:=by omega
          have b2 : q < xs.length:=by omega
          have b3 : (k : Int) < (xs.length : Int):=by omega
          have b4 : (q : Int) < (xs.length : Int):=by omega
          have HU2:=hidF (HU.out.step hak (by rw [hq];exact hq1))
          have HM2:=hidF (HM.out.trans (Moved.swap (a:=a) (b:=e) ys k q (by omega) (by omega) (by omega) (by omega) (by omega)))
          rw [hq] at HU2
          have HSW:=hidF (HB.swap k q hk1 hq1)
          have i0:=HB.c0 _ hk1
          have i1:=HB.c1 _ hk1
          have j0:=HB.c0 _ hq1
          have j1:=HB.c1 _ hq1
          have f0:=HB.fr
          generalize hgi : gx ys k = ei at *
          generalize hgj : gx ys q = ej at *
          clear HB
          go_wp2_with fail
          go_region
          all_goals go_wp2
          go_roundw
          case rel=>exact ⟨q,swp ys k q,rfl,by omega,by omega,HSW.out.drew,HU2,HM2⟩
          case measure=>simp [natOf];omega
        · have hd2 : decide ((k : Int) < ((i - 1 : Nat) : Int)) = false:=decide_eq_false (by omega)
          have g2 : ¬ (k : Int) < ((i - 1 : Nat) : Int):=by omega
          have hke : k = i - 1:=by omega
          have HF:=hidF (UpTo.done ent_ord (xs:=xs) (ys:=ys) (a:=a) (i:=i) (b:=e) (by omega) (by omega) (by rw [← hke];exact HU.out) (by rw [ham];exact H2.out) (fun hh=>HQ.out.1 (by omega)) (fun hh=>by have:=HQ.out.2 hh;omega))
          clear hke
          go_wp2
          (try simp only [Exit.inBlock,Exit.then]);refine bodyPost_ret (results_none rfl _ _ _) rfl ?_
          exact ⟨rfl,ys,HB,HF.out,HM.out⟩
end Go.Proofs.YthpkjkcfhipjhaaGreatDoor
end
section
namespace Go.Proofs.YthpkjkcfhipjhaaGreatDoor
set_option linter.unusedVariables false
set_option linter.unusedSimpArgs false
open Go.RowKit Go.Proofs.YthpkjkcfhipjhaaGreatDoorW.PrintWords Go.Proofs.YthpkjkcfhipjhaaGreatDoorW.PrintLast PRW PZA
set_option maxRecDepth 1000000 in
set_option maxHeartbeats 8000000 in
theorem sym2_c {w0 : World} (b cap : Nat) (xs : List (Ent w0)) (w : World) (h : SB w0 b xs w) (a m e : Nat) (ham : a + 1 < m) (hme : m + 1 = e) (hl : e ≤ xs.length) (hs : xs.length ≤ 1000000) (h2 : Srt (leC Ent.cf) a m xs) :
    Calls Tryz.prog 101 #[.slice (some ⟨b,0,none⟩) xs.length cap,.int .i64 a,.int .i64 m,.int .i64 e,byRowV] w fun r w'=>r = .returned (.tuple #[]) ∧ ∃ ys,SB w0 b ys w' ∧ Srt (leC Ent.cf) a e ys ∧ Moved a e xs ys:=by
  have hu:=Tryz.underlying48
  have eg:=enter_byRow
  have HS:=hidF h
  have H2:=hidF h2
  clear h h2
  obtain ⟨d,hdd⟩ : ∃ d,m - a = d:=⟨_,rfl⟩
  have v0 : IntKind.i64.wrap ((m : Int) - (a : Int)) = (d : Int):=by rw [IntKind.wrap_i64];omega
  have vd : ((d : Int) == 1) = false:=beq_eq_false_iff_ne.2 (by omega)
  have v00 : IntKind.i64.wrap ((e : Int) - (m : Int)) = 1:=by rw [IntKind.wrap_i64];omega
  have ha : m < xs.length:=by omega
  have haI : (m : Int) < (xs.length : Int):=by omega
  obtain ⟨xa,hxa⟩ : ∃ x,gx xs m = x:=⟨_,rfl⟩
  go_enter Tryz.func101,Tryz.ntmps101
  go_wp2
  go_loopw [14,15] (fun v10 v11 wr=>∃ (i j : Nat),v10 = Value.int .i64 i ∧ v11 = Value.int .i64 j ∧ SB w0 b xs wr ∧ Hid (BS a m i j (fun c=>0 ≤ Ent.cf (gx xs m) (gx xs c)))) (fun v10 v11 _=>natOf v11 - natOf v10)
  case atStart=>exact ⟨a,m,rfl,rfl,HS.out,hidF (BS.start (by omega))⟩
  case round =>
    obtain ⟨i,j,rfl,rfl,HB,HP⟩:=hrel
    have p0:=HP.out.h0
    have p1:=HP.out.h1
    have p2:=HP.out.h2
    by_cases hij : i < j
    · have hd : decide ((i : Int) < (j : Int)) = true:=decide_eq_true (by omega)
      have g0 : (i : Int) < (j : Int):=by omega
      obtain ⟨ij,hsum⟩ : ∃ s,i + j = s:=⟨_,rfl⟩
      obtain ⟨c,hc⟩ : ∃ c,ij / 2 = c:=⟨_,rfl⟩
      have v1 : IntKind.i64.wrap ((i : Int) + (j : Int)) = (ij : Int):=by rw [IntKind.wrap_i64];omega
      have v2 : IntKind.u64.wrap (ij : Int) = (ij : Int):=by rw [IntKind.wrap_u64];omega
      have v3 : (ij : Int) / 2 = (c : Int):=by omega
      have v4 : IntKind.i64.wrap (c : Int) = (c : Int):=by rw [IntKind.wrap_i64];omega
      have v5 : IntKind.u64.wrap (c : Int) = (c : Int):=by rw [IntKind.wrap_u64];omega
      have v6 : IntKind.i64.wrap ((c : Int) + 1) = ((c + 1 : Nat) : Int):=by rw [IntKind.wrap_i64];omega
      have c1 : c < xs.length:=by omega
      have c2 : (c : Int) < (xs.length : Int):=by omega
      obtain ⟨xc,hxc⟩ : ∃ x,gx xs c = x:=⟨_,rfl⟩
      have hC : SB w0 b xs { wr with drawn:=wr.drawn + 1 }:=HB.drew
      clear HB
      by_cases hlt : ¬ Ent.cf xa xc < 0
      · have HP2:=hidF (HP.out.up (c:=c) (by omega) (by omega) (by show 0 ≤ Ent.cf (gx xs m) (gx xs c);rw [hxc,hxa];omega))
        have hcd : decide (Ent.cf xa xc < 0) = false:=decide_eq_false hlt
        clear p0 p1 p2
        go_wp2_with fail
        refine zregion (C:=SB w0 b xs) (by kernel_rfl) (by kernel_rfl) hC ?_
        clear hC
        repeat (first
          | go_big_quiet_skip
          | (go_big_quiet_want;first
              | (go_big_quiet_op;go_big_quiet_on)
              | (apply Exists.intro
                 refine ⟨fun w' hw'=>?_, ?_⟩
                 · (have HC:=Lib.hid hw'
                    have i0:=hw'.c0 c c1
                    have i1:=hw'.c1 c c1
                    have j0:=hw'.c0 m ha
                    have j1:=hw'.c1 m ha
                    rw [hxc] at i0 i1
                    rw [hxa] at j0 j1
                    clear hw'
                    go_simp
                    first
                      | exact rfl
                      | ((with_reducible refine (byRow_s _ _ _ HC.out).mono ?_);rintro e w'' ⟨rfl,hb⟩;exact ⟨rfl,hb⟩))
                 go_simp
                 go_big_quiet_on)))
        refine wpQuiet_nil ?_
        intro w' hw'
        go_wp2
        go_roundw
        case rel=>exact ⟨c + 1,j,rfl,rfl,hw',HP2⟩
        case measure=>simp [natOf];omega
      · have HP2:=hidF (HP.out.down (c:=c) (by omega) (by omega) (by show ¬ 0 ≤ Ent.cf (gx xs m) (gx xs c);rw [hxc,hxa];omega))
        have hcd : decide (Ent.cf xa xc < 0) = true:=decide_eq_true (Decidable.of_not_not hlt)
        clear p0 p1 p2
        go_wp2_with fail
        refine zregion (C:=SB w0 b xs) (by kernel_rfl) (by kernel_rfl) hC ?_
        clear hC
        repeat (first
          | go_big_quiet_skip
          | (go_big_quiet_want;first
              | (go_big_quiet_op;go_big_quiet_on)
              | (apply Exists.intro
                 refine ⟨fun w' hw'=>?_, ?_⟩
                 · (have HC:=Lib.hid hw'
                    have i0:=hw'.c0 c c1
                    have i1:=hw'.c1 c c1
                    have j0:=hw'.c0 m ha
                    have j1:=hw'.c1 m ha
                    rw [hxc] at i0 i1
                    rw [hxa] at j0 j1
                    clear hw'
                    go_simp
                    first
                      | exact rfl
                      | ((with_reducible refine (byRow_s _ _ _ HC.out).mono ?_);rintro e w'' ⟨rfl,hb⟩;exact ⟨rfl,hb⟩))
                 go_simp
                 go_big_quiet_on)))
        refine wpQuiet_nil ?_
        intro w' hw'
        go_wp2
        go_roundw
        case rel=>exact ⟨i,c,rfl,rfl,hw',HP2⟩
        case measure=>simp [natOf];omega
    · have hd : decide ((i : Int) < (j : Int)) = false:=decide_eq_false (by omega)
      have g0 : ¬ (i : Int) < (j : Int):=by omega
      have q1 : a < i → 0 ≤ Ent.cf (gx xs m) (gx xs (i - 1)):=fun hh=>HP.out.lo hh
      have q2 : i < m → ¬ 0 ≤ Ent.cf (gx xs m) (gx xs j):=fun hh=>HP.out.hi (by omega)
      rw [show j = i by omega] at q2
      have HQ:=hidF (⟨fun hh=>by have:=q1 hh;omega,fun hh=>by have:=q2 hh;omega⟩ : (a < i → ¬ Ent.cf (gx xs m) (gx xs (i - 1)) < 0) ∧ (i < m → Ent.cf (gx xs m) (gx xs i) < 0))
      clear q1 q2
      have HB2:=hidF HB
      clear HB
      go_wp2
      go_loopw [17] (fun v wr=>∃ (k : Nat) (ys : List (Ent w0)),v = Value.int .i64 k ∧ i ≤ k ∧ k ≤ m ∧ SB w0 b ys wr ∧ Hid (DownTo m k xs ys) ∧ Hid (Moved a e xs ys)) (fun v _=>natOf v)
      case atStart=>exact ⟨m,xs,rfl,by omega,by omega,HB2.out,hidF (DownTo.start _ _),hidF (Moved.refl _ _ _)⟩
      case round =>
        obtain ⟨q,ys,rfl,hak,hki,HB,HU,HM⟩:=hrel
        have hlen:=HM.out.len
        by_cases hk : i < q
        · have hd2 : decide ((i : Int) < (q : Int)) = true:=decide_eq_true (by omega)
          have hd3 : decide ((q : Int) > (i : Int)) = true:=decide_eq_true (by omega)
          have g2 : (i : Int) < (q : Int):=by omega
          obtain ⟨k,hq⟩ : ∃ k,k + 1 = q:=⟨q - 1,by omega⟩
          have v2 : IntKind.i64.wrap ((q : Int) - 1) = (k : Int):=by rw [IntKind.wrap_i64];omega
          have hk1 : k < ys.length:=by omega
          have hq1 : q < ys.length:=by omega
          have b1 : k < xs.length:=by omega
          have b2 : q < xs.length:=by omega
          have b3 : (k : Int) < (xs.length : Int):=by omega
          have b4 : (q : Int) < (xs.length : Int):=by omega
          have HU2:=hidF (DownTo.step (k:=k) (by rw [hq];exact HU.out) (by omega) (by omega))
          have HM2:=hidF (HM.out.trans (Moved.swap (a:=a) (b:=e) ys q k (by omega) (by omega) (by omega) (by omega) (by omega)))
          rw [hq] at HU2
          have HSW:=hidF (HB.swap q k hq1 hk1)
          have i0:=HB.c0 _ hk1
          have i1:=HB.c1 _ hk1
          have j0:=HB.c0 _ hq1
          have j1:=HB.c1 _ hq1
          have f0:=HB.fr
          generalize hgi : gx ys k = ei at *
          generalize hgj : gx ys q = ej at *
          clear HB
          go_wp2_with fail
          go_region
          all_goals go_wp2
          go_roundw
          case rel=>exact ⟨k,swp ys q k,rfl,by omega,by omega,HSW.out.drew,HU2,HM2⟩
          case measure=>simp [natOf];omega
        · have hd2 : decide ((i : Int) < (q : Int)) = false:=decide_eq_false (by omega)
          have hd3 : decide ((q : Int) > (i : Int)) = false:=decide_eq_false (by omega)
          have g2 : ¬ (i : Int) < (q : Int):=by omega
          have hke : q = i:=by omega
          have HF:=hidF (DownTo.done ent_ord (xs:=xs) (ys:=ys) (a:=a) (i:=i) (m:=m) (by omega) (by omega) (by rw [← hke];exact HU.out) H2.out (fun hh=>by have:=HQ.out.1 hh;omega) (fun hh=>HQ.out.2 hh))
          rw [hme] at HF
          clear hke
          go_wp2
          (try simp only [Exit.inBlock,Exit.then]);refine bodyPost_ret (results_none rfl _ _ _) rfl ?_
          exact ⟨rfl,ys,HB,HF.out,HM.out⟩
end Go.Proofs.YthpkjkcfhipjhaaGreatDoor
end
section
namespace Go.Proofs.YthpkjkcfhipjhaaGreatDoor
set_option linter.unusedVariables false
set_option linter.unusedSimpArgs false
open Go.RowKit Go.Proofs.YthpkjkcfhipjhaaGreatDoorW.PrintWords Go.Proofs.YthpkjkcfhipjhaaGreatDoorW.PrintLast PRW PZA
theorem BS.iff' {s0 r0 s r : Nat} {P P' : Nat → Prop} (h : BS s0 r0 s r P) (k : ∀ c,P c ↔ P' c) : BS s0 r0 s r P':=⟨h.h0,h.h1,h.h2,fun x=>(k _).1 (h.lo x),fun x y=>h.hi x ((k _).2 y)⟩
theorem decI (p q : Nat) : decide ((p : Int) < (q : Int)) = decide (p < q):=by
 by_cases h : p < q
 ·rw [decide_eq_true h,decide_eq_true (by omega)]
 ·rw [decide_eq_false h,decide_eq_false (by omega)]
theorem nand {p q : Prop} (h : ¬ (p ∧ q)) : ¬ p ∨ ¬ q:=by
 by_cases hp : p
 ·exact .inr fun hq=>h ⟨hp,hq⟩
 ·exact .inl hp
/-- what the merge of a..m and m..e leaves -/
def SymOk (w0 : World) (b cap : Nat) (a m e : Nat) : Prop:=∀ (xs : List (Ent w0)) (w : World),SB w0 b xs w → a < m → m < e → e ≤ xs.length → xs.length ≤ 1000000 → Srt (leC Ent.cf) a m xs → Srt (leC Ent.cf) m e xs →
  Calls Tryz.prog 101 #[.slice (some ⟨b,0,none⟩) xs.length cap,.int .i64 a,.int .i64 m,.int .i64 e,byRowV] w fun r w'=>r = .returned (.tuple #[]) ∧ ∃ ys,SB w0 b ys w' ∧ Srt (leC Ent.cf) a e ys ∧ Moved a e xs ys
set_option maxRecDepth 1000000 in
set_option maxHeartbeats 16000000 in
theorem sym3_c {w0 : World} (b cap : Nat) (a m e : Nat) (IH : ∀ a' m' e',e' - a' < e - a → SymOk w0 b cap a' m' e') (n1 : a + 1 ≠ m) (n2 : m + 1 ≠ e) : SymOk w0 b cap a m e:=by
  intro xs w h ham hme hl hs h1 h2
  have hu:=Tryz.underlying48
  have eg:=enter_byRow
  have HS:=hidF h
  have H1:=hidF h1
  have H2:=hidF h2
  have HI:=hidF IH
  clear h h1 h2 IH
  obtain ⟨d,hdd⟩ : ∃ d,m - a = d:=⟨_,rfl⟩
  have v0 : IntKind.i64.wrap ((m : Int) - (a : Int)) = (d : Int):=by rw [IntKind.wrap_i64];omega
  have vd : ((d : Int) == 1) = false:=beq_eq_false_iff_ne.2 (by omega)
  obtain ⟨d2,hdd2⟩ : ∃ d,e - m = d:=⟨_,rfl⟩
  have v00 : IntKind.i64.wrap ((e : Int) - (m : Int)) = (d2 : Int):=by rw [IntKind.wrap_i64];omega
  have vd2 : ((d2 : Int) == 1) = false:=beq_eq_false_iff_ne.2 (by omega)
  obtain ⟨ae,hae⟩ : ∃ s,a + e = s:=⟨_,rfl⟩
  obtain ⟨mid,hmid⟩ : ∃ c,ae / 2 = c:=⟨_,rfl⟩
  have u1 : IntKind.i64.wrap ((a : Int) + (e : Int)) = (ae : Int):=by rw [IntKind.wrap_i64];omega
  have u2 : IntKind.u64.wrap (ae : Int) = (ae : Int):=by rw [IntKind.wrap_u64];omega
  have u3 : (ae : Int) / 2 = (mid : Int):=by omega
  have u4 : IntKind.i64.wrap (mid : Int) = (mid : Int):=by rw [IntKind.wrap_i64];omega
  have u5 : IntKind.u64.wrap (mid : Int) = (mid : Int):=by rw [IntKind.wrap_u64];omega
  obtain ⟨n,hn⟩ : ∃ c,mid + m = c:=⟨_,rfl⟩
  have u6 : IntKind.i64.wrap ((mid : Int) + (m : Int)) = (n : Int):=by rw [IntKind.wrap_i64];omega
  have u7 : IntKind.i64.wrap ((n : Int) - 1) = ((n - 1 : Nat) : Int):=by rw [IntKind.wrap_i64];omega
  obtain ⟨s0,hs0⟩ : ∃ c,(if m > mid then mid + m - e else a) = c:=⟨_,rfl⟩
  obtain ⟨r0,hr0⟩ : ∃ c,(if m > mid then mid else m) = c:=⟨_,rfl⟩
  have hsr : s0 ≤ r0 ∧ r0 ≤ m ∧ r0 ≤ mid ∧ a ≤ s0 ∧ n ≤ s0 + e:=by
    rw [← hs0,← hr0]
    split <;> omega
  go_enter Tryz.func101,Tryz.ntmps101
  by_cases hmm : m > mid
  all_goals
    (first
      | (rw [if_pos hmm] at hs0 hr0
         have u9 : (mid : Int) < (m : Int):=by omega
         have u10 : IntKind.i64.wrap ((n : Int) - (e : Int)) = (s0 : Int):=by rw [IntKind.wrap_i64];omega)
      | (rw [if_neg hmm] at hs0 hr0
         have u9 : ¬ (mid : Int) < (m : Int):=by omega))
    have HS0:=hidF hs0
    have HR0:=hidF hr0
    have HN:=hidF hn
    have HSR:=hidF hsr
    clear hs0 hr0 hn hsr
    go_wp2
    go_loopw [20,21] (fun v20 v21 wr=>∃ (i j : Nat),v20 = Value.int .i64 i ∧ v21 = Value.int .i64 j ∧ SB w0 b xs wr ∧ Hid (BS s0 r0 i j (fun c=>0 ≤ Ent.cf (gx xs (n - 1 - c)) (gx xs c)))) (fun v20 v21 _=>natOf v21 - natOf v20)
    case atStart=>exact ⟨s0,r0,by first | rfl | (rw [HS0.out]),by rw [HR0.out],HS.out,hidF (BS.start HSR.out.1)⟩
    case round =>
      obtain ⟨i,j,rfl,rfl,HB,HP⟩:=hrel
      have p0:=HP.out.h0
      have p1:=HP.out.h1
      have p2:=HP.out.h2
      have hsr:=HSR.out
      have hn:=HN.out
      by_cases hij : i < j
      · have hd : decide ((i : Int) < (j : Int)) = true:=decide_eq_true (by omega)
        have g0 : (i : Int) < (j : Int):=by omega
        obtain ⟨ij,hsum⟩ : ∃ s,i + j = s:=⟨_,rfl⟩
        obtain ⟨c,hc⟩ : ∃ c,ij / 2 = c:=⟨_,rfl⟩
        have v1 : IntKind.i64.wrap ((i : Int) + (j : Int)) = (ij : Int):=by rw [IntKind.wrap_i64];omega
        have v2 : IntKind.u64.wrap (ij : Int) = (ij : Int):=by rw [IntKind.wrap_u64];omega
        have v3 : (ij : Int) / 2 = (c : Int):=by omega
        have v4 : IntKind.i64.wrap (c : Int) = (c : Int):=by rw [IntKind.wrap_i64];omega
        have v5 : IntKind.u64.wrap (c : Int) = (c : Int):=by rw [IntKind.wrap_u64];omega
        have v6 : IntKind.i64.wrap ((c : Int) + 1) = ((c + 1 : Nat) : Int):=by rw [IntKind.wrap_i64];omega
        obtain ⟨pc,hpc⟩ : ∃ q,n - 1 - c = q:=⟨_,rfl⟩
        have v7 : IntKind.i64.wrap (((n - 1 : Nat) : Int) - (c : Int)) = (pc : Int):=by rw [IntKind.wrap_i64];omega
        have c1 : c < xs.length:=by omega
        have ha : pc < xs.length:=by omega
        have haI : (pc : Int) < (xs.length : Int):=by omega
        obtain ⟨xa,hxa⟩ : ∃ x,gx xs pc = x:=⟨_,rfl⟩
        have c2 : (c : Int) < (xs.length : Int):=by omega
        obtain ⟨xc,hxc⟩ : ∃ x,gx xs c = x:=⟨_,rfl⟩
        have hC : SB w0 b xs { wr with drawn:=wr.drawn + 1 }:=HB.drew
        clear HB
        by_cases hlt : ¬ Ent.cf xa xc < 0
        · have HP2:=hidF (HP.out.up (c:=c) (by omega) (by omega) (by show 0 ≤ Ent.cf (gx xs (n - 1 - c)) (gx xs c);rw [hpc,hxc,hxa];omega))
          have hcd : decide (Ent.cf xa xc < 0) = false:=decide_eq_false hlt
          clear p0 p1 p2 hsr hn hpc
          go_wp2_with fail
          refine zregion (C:=SB w0 b xs) (by kernel_rfl) (by kernel_rfl) hC ?_
          clear hC
          repeat (first
            | go_big_quiet_skip
            | (go_big_quiet_want;first
                | (go_big_quiet_op;go_big_quiet_on)
                | (apply Exists.intro
                   refine ⟨fun w' hw'=>?_, ?_⟩
                   · (have HC:=Lib.hid hw'
                      have i0:=hw'.c0 c c1
                      have i1:=hw'.c1 c c1
                      have j0:=hw'.c0 pc ha
                      have j1:=hw'.c1 pc ha
                      rw [hxc] at i0 i1
                      rw [hxa] at j0 j1
                      clear hw'
                      go_simp
                      first
                        | exact rfl
                        | ((with_reducible refine (byRow_s _ _ _ HC.out).mono ?_);rintro e w'' ⟨rfl,hb⟩;exact ⟨rfl,hb⟩))
                   go_simp
                   go_big_quiet_on)))
          refine wpQuiet_nil ?_
          intro w' hw'
          go_wp2
          go_roundw
          case rel=>exact ⟨c + 1,j,rfl,rfl,hw',HP2⟩
          case measure=>simp [natOf];omega
        · have HP2:=hidF (HP.out.down (c:=c) (by omega) (by omega) (by show ¬ 0 ≤ Ent.cf (gx xs (n - 1 - c)) (gx xs c);rw [hpc,hxc,hxa];omega))
          have hcd : decide (Ent.cf xa xc < 0) = true:=decide_eq_true (Decidable.of_not_not hlt)
          clear p0 p1 p2 hsr hn hpc
          go_wp2_with fail
          refine zregion (C:=SB w0 b xs) (by kernel_rfl) (by kernel_rfl) hC ?_
          clear hC
          repeat (first
            | go_big_quiet_skip
            | (go_big_quiet_want;first
                | (go_big_quiet_op;go_big_quiet_on)
                | (apply Exists.intro
                   refine ⟨fun w' hw'=>?_, ?_⟩
                   · (have HC:=Lib.hid hw'
                      have i0:=hw'.c0 c c1
                      have i1:=hw'.c1 c c1
                      have j0:=hw'.c0 pc ha
                      have j1:=hw'.c1 pc ha
                      rw [hxc] at i0 i1
                      rw [hxa] at j0 j1
                      clear hw'
                      go_simp
                      first
                        | exact rfl
                        | ((with_reducible refine (byRow_s _ _ _ HC.out).mono ?_);rintro e w'' ⟨rfl,hb⟩;exact ⟨rfl,hb⟩))
                   go_simp
                   go_big_quiet_on)))
          refine wpQuiet_nil ?_
          intro w' hw'
          go_wp2
          go_roundw
          case rel=>exact ⟨i,c,rfl,rfl,hw',HP2⟩
          case measure=>simp [natOf];omega
      · have hji : j = i:=by omega
        rw [hji] at HP
        have hsr:=HSR.out
        have hn:=HN.out
        have HSY : Hid (Sym Ent.cf a m e mid i xs):=hidF (Sym.of ham hme (by omega) (by
          have h5:=HP.out.iff' (P':=fun c=>¬ Ent.cf (gx xs (mid + m - 1 - c)) (gx xs c) < 0) (fun c=>by rw [hn];show 0 ≤ _ ↔ ¬ _ < 0;omega)
          have e1:=HS0.out
          have e2:=HR0.out
          first
            | (rw [if_pos hmm,if_pos hmm];rw [← e1,← e2] at h5;exact h5)
            | (rw [if_neg hmm,if_neg hmm];rw [← e1,← e2] at h5;exact h5)))
        have b0:=HSY.out.s0
        have b1:=HSY.out.sm
        have b2:=HSY.out.sd
        have b3:=HSY.out.se
        have b4:=HSY.out.eb
        obtain ⟨en,hen⟩ : ∃ c,n - i = c:=⟨_,rfl⟩
        have hen2 : mid + m - i = en:=by omega
        have x1 : IntKind.i64.wrap ((n : Int) - (i : Int)) = (en : Int):=by rw [IntKind.wrap_i64];omega
        have hmidI : a ≤ mid ∧ mid ≤ e:=by omega
        have HEN:=hidF hen2
        have KR : Hid (∀ W,SB w0 b xs W → i < m → m < en → Calls Tryz.prog 122 #[.slice (some ⟨b,0,none⟩) xs.length cap,.int .i64 i,.int .i64 m,.int .i64 en,byRowV] W fun r w'=>r = .returned (.tuple #[]) ∧ ∃ ys,SB w0 b ys w' ∧ Rot i m (mid + m - i) xs ys ∧ Moved a e xs ys) :=
          hidF fun W hW g1 g2=>(rotate_c b cap xs W hW i m en g1 g2 (by omega) hs byRowV).mono fun r w' ⟨e1,ys,k1,k2,k3⟩=>⟨e1,ys,k1,by rw [hen2];exact k2,k3.wide (by omega) (by omega)⟩
        have K1 : Hid (∀ ys,Rot i m (mid + m - i) xs ys → Moved a e xs ys → ∀ W,SB w0 b ys W → a < i → i < mid → Calls Tryz.prog 101 #[.slice (some ⟨b,0,none⟩) xs.length cap,.int .i64 a,.int .i64 i,.int .i64 mid,byRowV] W fun r w'=>r = .returned (.tuple #[]) ∧ ∃ zs,SB w0 b zs w' ∧ Srt (leC Ent.cf) a mid zs ∧ Moved a mid ys zs) :=
          hidF fun ys hR hM W hW g1 g2=>by
            have hl2:=hM.len
            have:=HI.out a i mid (by omega) ys W hW g1 g2 (by omega) (by omega) (HSY.out.low H1.out hR) (HSY.out.mid1 H2.out hR)
            rwa [hl2] at this
        have K2 : Hid (∀ ys zs,Rot i m (mid + m - i) xs ys → Moved a e xs ys → Moved a mid ys zs → ∀ W,SB w0 b zs W → mid < en → en < e → Calls Tryz.prog 101 #[.slice (some ⟨b,0,none⟩) xs.length cap,.int .i64 mid,.int .i64 en,.int .i64 e,byRowV] W fun r w'=>r = .returned (.tuple #[]) ∧ ∃ ws,SB w0 b ws w' ∧ Srt (leC Ent.cf) mid e ws ∧ Moved mid e zs ws) :=
          hidF fun ys zs hR hM hM2 W hW g1 g2=>by
            have hl2:=hM.len
            have hl3:=hM2.len
            have t1:=HSY.out.mid2 H1.out hR
            have t2:=HSY.out.high H2.out hR
            rw [hen2] at t1 t2
            have:=HI.out mid en e (by omega) zs W hW g1 g2 (by omega) (by omega) (t1.out hM2 (.inr (Nat.le_refl _))) (t2.out hM2 (.inr (by omega)))
            rwa [hl3,hl2] at this
        have KF : Hid (∀ ys zs ws,Rot i m (mid + m - i) xs ys → Moved a e xs ys → Moved a mid ys zs → Srt (leC Ent.cf) a mid zs → Moved mid e zs ws → Srt (leC Ent.cf) mid e ws → Srt (leC Ent.cf) a e ws ∧ Moved a e xs ws) :=
          hidF fun ys zs ws hR hM m1 s1 m2 s2=>sym_fin ent_ord HSY.out H1.out H2.out hR hM m1 s1 m2 s2
        have K3 : Hid (∀ ys,Rot i m (mid + m - i) xs ys → (¬ a < i ∨ ¬ i < mid) → Srt (leC Ent.cf) a mid ys):=hidF fun ys hR h=>sym_first HSY.out H1.out H2.out hR h
        have K4 : Hid (∀ ys zs,Rot i m (mid + m - i) xs ys → Moved a mid ys zs → (¬ mid < en ∨ ¬ en < e) → Srt (leC Ent.cf) mid e zs):=hidF fun ys zs hR m1 h=>sym_second HSY.out H1.out H2.out hR m1 (by rw [hen2];exact h)
        have K5 : Hid ((¬ i < m ∨ ¬ m < en) → Rot i m (mid + m - i) xs xs):=hidF fun h=>sym_norot HSY.out (by rw [hen2];exact h)
        have hijF : ¬ (i : Int) < (j : Int):=by omega
        have hijD : decide ((i : Int) < (j : Int)) = false:=decide_eq_false hijF
        clear hen2 b3 b4 hen hsr hn p0 p1 p2 hij hji HP
        have w1 : i < mid ↔ m < en:=by have:=HEN.out;omega
        have w2 : i < m ↔ mid < en:=by have:=HEN.out;omega
        by_cases t1 : i < m <;> by_cases t2 : i < mid
        all_goals first | (exfalso;omega) | skip
        all_goals by_cases t3 : a < i <;> by_cases t4 : en < e
        all_goals by_cases t5 : i < m ∧ m < en
        all_goals first | (exfalso;omega) | skip
        all_goals
          have y1:=decI i m
          have y2:=decI m en
          have y3:=decI a i
          have y4:=decI i mid
          have y5:=decI mid en
          have y6:=decI en e
          simp only [t1,t2,t3,t4,← w1,← w2] at y1 y2 y3 y4 y5 y6
          clear w1 w2
          have HBh:=hidF HB
          clear HB b0 b1 b2
          first | have z1:=of_decide_eq_true y1 | have z1:=of_decide_eq_false y1
          first | have z2:=of_decide_eq_true y2 | have z2:=of_decide_eq_false y2
          first | have z3:=of_decide_eq_true y3 | have z3:=of_decide_eq_false y3
          first | have z4:=of_decide_eq_true y4 | have z4:=of_decide_eq_false y4
          first | have z5:=of_decide_eq_true y5 | have z5:=of_decide_eq_false y5
          first | have z6:=of_decide_eq_true y6 | have z6:=of_decide_eq_false y6
          first
            | (have hR0:=hidF (K5.out (nand t5));obtain ⟨ys,hR1,hM1,hB1⟩ : ∃ ys,Hid (Rot i m (mid + m - i) xs ys) ∧ Hid (Moved a e xs ys) ∧ Hid (SB w0 b ys wr):=⟨xs,hR0,hidF (Moved.refl a e xs),HBh⟩;clear hR0)
            | skip
          clear t5
          go_wp2_with (first
            | (go_at_call 122;((with_reducible refine (KR.out _ HBh.out (by omega) (by omega)).mono ?_);rintro r w1 ⟨rfl,ys,k1,k2,k3⟩;have hB1:=hidF k1;have hR1:=hidF k2;have hM1:=hidF k3;clear k1 k2 k3))
            | (go_at_call 101;((with_reducible refine (K1.out ys hR1.out hM1.out _ hB1.out (by omega) (by omega)).mono ?_);rintro r w2 ⟨rfl,zs,k4,k5,k6⟩;have hB2:=hidF k4;have s1:=hidF k5;have m1:=hidF k6;clear k4 k5 k6))
            | (go_at_call 101;((with_reducible refine (K2.out ys zs hR1.out hM1.out m1.out _ hB2.out (by omega) (by omega)).mono ?_);rintro r w3 ⟨rfl,ws,k7,k8,k9⟩;have hB3:=hidF k7;have s2:=hidF k8;have m2:=hidF k9;clear k7 k8 k9))
            | (go_at_call 101;((with_reducible refine (K2.out ys ys hR1.out hM1.out (Moved.refl _ _ _) _ hB1.out (by omega) (by omega)).mono ?_);rintro r w3 ⟨rfl,ws,k7,k8,k9⟩;have hB3:=hidF k7;have s2:=hidF k8;have m2:=hidF k9;clear k7 k8 k9)))
          first | go_end0 | ((try simp only [Exit.inBlock,Exit.then]);refine bodyPost_ret (results_none rfl _ _ _) rfl ?_)
          first
            | exact ⟨rfl,ws,hB3.out,KF.out ys zs ws hR1.out hM1.out m1.out s1.out m2.out s2.out⟩
            | exact ⟨rfl,ws,hB3.out,KF.out ys ys ws hR1.out hM1.out (Moved.refl _ _ _) (K3.out ys hR1.out (by omega)) m2.out s2.out⟩
            | exact ⟨rfl,zs,hB2.out,KF.out ys zs zs hR1.out hM1.out m1.out s1.out (Moved.refl _ _ _) (K4.out ys zs hR1.out m1.out (by omega))⟩
            | exact ⟨rfl,ys,hB1.out,KF.out ys ys ys hR1.out hM1.out (Moved.refl _ _ _) (K3.out ys hR1.out (by omega)) (Moved.refl _ _ _) (K4.out ys ys hR1.out (Moved.refl _ _ _) (by omega))⟩
/-- the merge, whatever the lengths -/
theorem symMerge_c {w0 : World} (b cap : Nat) : ∀ (k a m e : Nat),e - a ≤ k → SymOk w0 b cap a m e
 | 0,a,m,e,hk=>fun xs w h ham hme=>by omega
 | k + 1,a,m,e,hk=>by
  by_cases n1 : a + 1 = m
  ·exact fun xs w h ham hme hl hs h1 h2=>sym1_c b cap xs w h a m e n1 hme hl hs h2
  ·by_cases n2 : m + 1 = e
   ·exact fun xs w h ham hme hl hs h1 h2=>sym2_c b cap xs w h a m e (by omega) n2 hl hs h1
   ·exact sym3_c b cap a m e (fun a' m' e' hlt=>symMerge_c b cap k a' m' e' (by omega)) n1 n2
end Go.Proofs.YthpkjkcfhipjhaaGreatDoor
end
section
namespace Go.Proofs.YthpkjkcfhipjhaaGreatDoor
set_option linter.unusedVariables false
set_option linter.unusedSimpArgs false
open Go.RowKit Go.Proofs.YthpkjkcfhipjhaaGreatDoorW.PrintWords Go.Proofs.YthpkjkcfhipjhaaGreatDoorW.PrintLast PRW PZA
set_option maxRecDepth 1000000 in
set_option maxHeartbeats 16000000 in
theorem stable_c {w0 : World} (b cap : Nat) (xs : List (Ent w0)) (w : World) (h : SB w0 b xs w) (hs : xs.length ≤ 1000000) :
  Calls Tryz.prog 74 #[.slice (some ⟨b,0,none⟩) xs.length cap,.int .i64 xs.length,byRowV] w fun r w'=>r = .returned (.tuple #[]) ∧ ∃ ys,SB w0 b ys w' ∧ Srt (leC Ent.cf) 0 xs.length ys ∧ Moved 0 xs.length xs ys:=by
 have hu:=Tryz.underlying48
 have eg:=enter_byRow
 have HS:=hidF h
 clear h
 have INS : Hid (∀ (ys : List (Ent w0)) (W : World) (a e : Nat),ys.length = xs.length → SB w0 b ys W → a ≤ e → e ≤ xs.length → Calls Tryz.prog 100 #[.slice (some ⟨b,0,none⟩) xs.length cap,.int .i64 a,.int .i64 e,byRowV] W fun r w'=>r = .returned (.tuple #[]) ∧ ∃ zs,SB w0 b zs w' ∧ Srt (leC Ent.cf) a e zs ∧ Moved a e ys zs) :=
  hidF fun ys W a e hl hb h1 h2=>by have:=insSort_c b cap ys W hb a e h1 (by omega) (by omega);rwa [hl] at this
 have MRG : Hid (∀ (ys : List (Ent w0)) (W : World) (a m e : Nat),ys.length = xs.length → SB w0 b ys W → a < m → m < e → e ≤ xs.length → Srt (leC Ent.cf) a m ys → Srt (leC Ent.cf) m e ys → Calls Tryz.prog 101 #[.slice (some ⟨b,0,none⟩) xs.length cap,.int .i64 a,.int .i64 m,.int .i64 e,byRowV] W fun r w'=>r = .returned (.tuple #[]) ∧ ∃ zs,SB w0 b zs w' ∧ Srt (leC Ent.cf) a e zs ∧ Moved a e ys zs) :=
  hidF fun ys W a m e hl hb h1 h2 h3 h4 h5=>by have:=symMerge_c b cap (e - a) a m e (Nat.le_refl _) ys W hb h1 h2 (by omega) (by omega) h4 h5;rwa [hl] at this
 obtain ⟨n,hn⟩ : ∃ n,xs.length = n:=⟨_,rfl⟩
 rw [hn] at INS MRG hs ⊢
 have HN:=hidF hn
 clear hn
 go_enter Tryz.func74,Tryz.ntmps74
 go_wp2
 go_loopw [7,8] (fun va vb wr=>∃ (q a : Nat) (ys : List (Ent w0)),va = Value.int .i64 a ∧ vb = Value.int .i64 ((a + 20 : Nat) : Int) ∧ a ≤ n ∧ SB w0 b ys wr ∧ Hid (a = q * 20) ∧ Hid (Blks (leC Ent.cf) 20 0 a ys) ∧ Hid (Moved 0 n xs ys)) (fun va _ _=>n - natOf va)
 case atStart=>exact ⟨0,0,xs,rfl,rfl,by omega,HS.out,hidF (by omega),hidF (fun i j h1 h2 h3=>by omega),hidF (Moved.refl _ _ _)⟩
 case round =>
  obtain ⟨q,a,ys,rfl,rfl,han,HB,HQ,HK,HM⟩:=hrel
  have hlen:=hidF (HM.out.len.trans HN.out)
  obtain ⟨e,he⟩ : ∃ e,a + 20 = e:=⟨_,rfl⟩
  rw [he]
  by_cases hlt : e ≤ n
  ·have hd : decide ((e : Int) ≤ (n : Int)) = true:=decide_eq_true (by omega)
   have g0 : (e : Int) ≤ (n : Int):=by omega
   have v1 : IntKind.i64.wrap ((e : Int) + 20) = ((e + 20 : Nat) : Int):=by rw [IntKind.wrap_i64];omega
   have C:=hidF (INS.out ys wr a e hlen.out HB (by omega) hlt)
   have HK2 : Hid (∀ zs,Srt (leC Ent.cf) a e zs → Moved a e ys zs → Blks (leC Ent.cf) 20 0 e zs):=hidF fun zs s m=>by
    have hq:=HQ.out
    refine Blks.snoc (q:=q) (by omega) (by rw [← hq];exact HK.out) (by rw [← hq];exact s) (by rw [← hq];exact m)
   clear HB
   go_wp2_with (go_at_call 100;((with_reducible refine C.out.mono ?_);rintro r w1 ⟨rfl,zs,k1,k2,k3⟩;have HB1:=hidF k1;have HS1:=hidF k2;have HM1:=hidF k3;clear k1 k2 k3))
   go_roundw
   case rel=>exact ⟨q + 1,e,zs,rfl,rfl,by omega,HB1.out,hidF (by have:=HQ.out;omega),hidF (HK2.out zs HS1.out HM1.out),hidF (HM.out.trans (HM1.out.wide (by omega) (by omega)))⟩
   case measure=>simp [natOf];omega
  ·have hd : decide ((e : Int) ≤ (n : Int)) = false:=decide_eq_false (by omega)
   have g0 : ¬ (e : Int) ≤ (n : Int):=by omega
   have C:=hidF (INS.out ys wr a n hlen.out HB (by omega) (by have:=HN.out;omega))
   have HK2 : Hid (∀ zs,Srt (leC Ent.cf) a n zs → Moved a n ys zs → Blks (leC Ent.cf) 20 0 n zs):=hidF fun zs s m=>by
    have hq:=HQ.out
    refine Blks.snoc (q:=q) (by omega) (by rw [← hq];exact HK.out) (by rw [← hq];exact s) (by rw [← hq];exact m)
   clear HB
   go_wp2_with (go_at_call 100;((with_reducible refine C.out.mono ?_);rintro r w1 ⟨rfl,zs,k1,k2,k3⟩;have HB1:=hidF k1;have HS1:=hidF k2;have HM1:=hidF k3;clear k1 k2 k3))
   have HK3:=hidF (HK2.out zs HS1.out HM1.out)
   have HM3:=hidF (HM.out.trans (HM1.out.wide (by omega) (by omega)))
   clear HK2 HK HQ HM HM1 HS1 hlen C he hlt hd g0
   go_loopw [6] (fun vk wr=>∃ (k : Nat) (ys : List (Ent w0)),vk = Value.int .i64 k ∧ 0 < k ∧ k ≤ 3000000 ∧ SB w0 b ys wr ∧ Hid (Blks (leC Ent.cf) k 0 n ys) ∧ Hid (Moved 0 n xs ys)) (fun vk _=>n - natOf vk)
   case atStart=>exact ⟨20,zs,rfl,by omega,by omega,HB1.out,HK3,HM3⟩
   case round =>
    clear HK3 HM3 HB1
    obtain ⟨k,ys,rfl,hk0,hk1,HB,HK,HM⟩:=hrel
    by_cases hlt : k < n
    ·have hd : decide ((k : Int) < (n : Int)) = true:=decide_eq_true (by omega)
     have g0 : (k : Int) < (n : Int):=by omega
     obtain ⟨k2,hk2⟩ : ∃ k2,2 * k = k2:=⟨_,rfl⟩
     have v1 : IntKind.i64.wrap (2 * (k : Int)) = (k2 : Int):=by rw [IntKind.wrap_i64];omega
     have v2 : IntKind.i64.wrap ((k : Int) * 2) = (k2 : Int):=by rw [IntKind.wrap_i64];omega
     have HBh:=hidF HB
     clear HB
     go_wp2
     go_loopw [7,8] (fun va vb wr=>∃ (q a : Nat) (zs : List (Ent w0)),va = Value.int .i64 a ∧ vb = Value.int .i64 ((a + k2 : Nat) : Int) ∧ a ≤ n ∧ SB w0 b zs wr ∧ Hid (a = q * k2) ∧ Hid (Blks (leC Ent.cf) k2 0 a zs) ∧ Hid (Blks (leC Ent.cf) k a n zs) ∧ Hid (Moved 0 n xs zs)) (fun va _ _=>n - natOf va)
     case atStart=>exact ⟨0,0,ys,rfl,by rw [Nat.zero_add],by omega,HBh.out,hidF (by omega),hidF (fun i j h1 h2 h3=>by omega),HK,HM⟩
     case round =>
      clear HBh HK HM
      obtain ⟨q,a,zs,rfl,rfl,han,HB,HQ,HK2,HK,HM⟩:=hrel
      have hlen:=hidF (HM.out.len.trans HN.out)
      obtain ⟨e,he⟩ : ∃ e,a + k2 = e:=⟨_,rfl⟩
      rw [he]
      obtain ⟨m,hm⟩ : ∃ m,a + k = m:=⟨_,rfl⟩
      have v3 : IntKind.i64.wrap ((a : Int) + (k : Int)) = (m : Int):=by rw [IntKind.wrap_i64];omega
      have hq2 : Hid (a = 2 * q * k ∧ m = (2 * q + 1) * k ∧ e = (2 * q + 2) * k):=hidF (by
       have:=HQ.out
       rw [← hk2,← Nat.mul_assoc,Nat.mul_comm q 2] at this
       refine ⟨this, ?_, ?_⟩
       ·rw [Nat.add_mul,← this];omega
       ·rw [Nat.add_mul,← this];omega)
      by_cases hle : e ≤ n
      ·have hd2 : decide ((e : Int) ≤ (n : Int)) = true:=decide_eq_true (by omega)
       have g2 : (e : Int) ≤ (n : Int):=by omega
       have v4 : IntKind.i64.wrap ((e : Int) + (k2 : Int)) = ((e + k2 : Nat) : Int):=by rw [IntKind.wrap_i64];omega
       have C:=hidF (MRG.out zs wr a m e hlen.out HB (by omega) (by omega) (by have:=HN.out;omega)
        (by have h3:=Blks.srt (q:=2 * q) (hi':=m) hk0 HK.out (by rw [← hq2.out.1];exact Nat.le_refl _) (by omega) (by rw [← hq2.out.2.1];exact Nat.le_refl _);rwa [← hq2.out.1] at h3)
        (by have h3:=Blks.srt (q:=2 * q + 1) (hi':=e) hk0 HK.out (by rw [← hq2.out.2.1];omega) (by omega) (by rw [← hq2.out.2.2];exact Nat.le_refl _);rwa [← hq2.out.2.1] at h3))
       have HF : Hid (∀ us,Srt (leC Ent.cf) a e us → Moved a e zs us → Blks (leC Ent.cf) k2 0 e us ∧ Blks (leC Ent.cf) k e n us ∧ Moved 0 n xs us):=hidF fun us s mv=>by
        have hq:=HQ.out
        exact ⟨Blks.snoc (q:=q) (by omega) (by rw [← hq];exact HK2.out) (by rw [← hq];exact s) (by rw [← hq];exact mv),HK.out.rest (by omega) mv (by omega),HM.out.trans (mv.wide (by omega) (by omega))⟩
       clear HB
       go_wp2_with (go_at_call 101;((with_reducible refine C.out.mono ?_);rintro r w1 ⟨rfl,us,k1,k2',k3⟩;have HB1:=hidF k1;have HS1:=hidF k2';have HM1:=hidF k3;clear k1 k2' k3))
       have HG:=hidF (HF.out us HS1.out HM1.out)
       go_roundw
       case rel=>exact ⟨q + 1,e,us,rfl,rfl,by omega,HB1.out,hidF (by have:=HQ.out;rw [Nat.add_mul,← this];omega),hidF HG.out.1,hidF HG.out.2.1,hidF HG.out.2.2⟩
       case measure=>simp [natOf];omega
      ·have hd2 : decide ((e : Int) ≤ (n : Int)) = false:=decide_eq_false (by omega)
       have g2 : ¬ (e : Int) ≤ (n : Int):=by omega
       by_cases hmn : m < n
       ·have hd3 : decide ((m : Int) < (n : Int)) = true:=decide_eq_true (by omega)
        have g3 : (m : Int) < (n : Int):=by omega
        have C:=hidF (MRG.out zs wr a m n hlen.out HB (by omega) (by omega) (by have:=HN.out;omega)
         (by have h3:=Blks.srt (q:=2 * q) (hi':=m) hk0 HK.out (by rw [← hq2.out.1];exact Nat.le_refl _) (by omega) (by rw [← hq2.out.2.1];exact Nat.le_refl _);rwa [← hq2.out.1] at h3)
         (by have h3:=Blks.srt (q:=2 * q + 1) (hi':=n) hk0 HK.out (by rw [← hq2.out.2.1];omega) (by omega) (by rw [← hq2.out.2.2];omega);rwa [← hq2.out.2.1] at h3))
        have HF : Hid (∀ us,Srt (leC Ent.cf) a n us → Moved a n zs us → Blks (leC Ent.cf) k2 0 n us ∧ Moved 0 n xs us):=hidF fun us s mv=>by
         have hq:=HQ.out
         exact ⟨Blks.snoc (q:=q) (by omega) (by rw [← hq];exact HK2.out) (by rw [← hq];exact s) (by rw [← hq];exact mv),HM.out.trans (mv.wide (by omega) (by omega))⟩
        clear HB
        go_wp2_with (go_at_call 101;((with_reducible refine C.out.mono ?_);rintro r w1 ⟨rfl,us,k1,k2',k3⟩;have HB1:=hidF k1;have HS1:=hidF k2';have HM1:=hidF k3;clear k1 k2' k3))
        have HG:=hidF (HF.out us HS1.out HM1.out)
        go_roundw
        case rel=>exact ⟨k2,us,rfl,by omega,by omega,HB1.out,hidF HG.out.1,hidF HG.out.2⟩
        case measure=>simp [natOf];omega
       ·have hd3 : decide ((m : Int) < (n : Int)) = false:=decide_eq_false (by omega)
        have g3 : ¬ (m : Int) < (n : Int):=by omega
        have HF : Hid (Blks (leC Ent.cf) k2 0 n zs):=hidF (by
         have hq:=HQ.out
         have h3:=Blks.srt (q:=2 * q) (hi':=n) hk0 HK.out (by rw [← hq2.out.1];exact Nat.le_refl _) (by omega) (by rw [← hq2.out.2.1];omega)
         rw [← hq2.out.1] at h3
         exact Blks.snoc (q:=q) (by omega) (by rw [← hq];exact HK2.out) (by rw [← hq];exact h3) (Moved.refl _ _ _))
        have HB1:=hidF HB
        clear HB
        go_wp2
        go_roundw
        case rel=>exact ⟨k2,zs,rfl,by omega,by omega,HB1.out,HF,HM⟩
        case measure=>simp [natOf];omega
    ·have hd : decide ((k : Int) < (n : Int)) = false:=decide_eq_false (by omega)
     have g0 : ¬ (k : Int) < (n : Int):=by omega
     have HF:=hidF (HK.out.whole (by omega))
     go_wp2
     first | go_end0 | ((try simp only [Exit.inBlock,Exit.then]);refine bodyPost_ret (results_none rfl _ _ _) rfl ?_)
     exact ⟨rfl,ys,HB,HF.out,HM.out⟩
end Go.Proofs.YthpkjkcfhipjhaaGreatDoor
end
section
namespace Go.Proofs.YthpkjkcfhipjhaaGreatDoor
set_option linter.unusedVariables false
set_option linter.unusedSimpArgs false
open Go.RowKit Go.Proofs.YthpkjkcfhipjhaaGreatDoorW.PrintWords Go.Proofs.YthpkjkcfhipjhaaGreatDoorW.PrintLast PRW PZA
theorem infoE : (Tryz.prog.info? 48).map (fun i=>(i.zero,i.size,i.bytes)) = some (some (.agg #[(.slice none 0 0),(.int .i64 0)]),2,32):=by kernel_rfl
theorem infoVv : (Tryz.prog.info? 64).map (fun i=>(i.zero,i.size,i.bytes)) = some (some (.agg #[(.int .i64 0),(.int .i64 0),(.int .u64 0),(.string ⟨#[]⟩)]),4,40):=by kernel_rfl
theorem C_empty {α : Type} {d : Kd α} {w : World} {n : Nat} {xs : List α} (h : d.C w none n xs) : xs = [] ∧ n = 0:=by
 obtain ⟨h1,h2,h3⟩:=h
 rcases Nat.eq_zero_or_pos n with h0 | h0
 ·subst h0;exact ⟨List.eq_nil_of_length_eq_zero h1,rfl⟩
 ·obtain ⟨ad,e,_⟩:=h3 h0;cases e
set_option maxRecDepth 100000 in
set_option maxHeartbeats 4000000 in
theorem cloneRow_c (A0 : Option Addr) (c0 : Nat) (l : List S64) (w : World) (hr : Kd.C k64 w A0 l.length l) (hl : l.length ≤ 1000000) :
  Calls Tryz.prog 45 #[.slice A0 l.length c0] w fun e w'=>∃ v0,e = .returned v0 ∧ Kd.R k64 64 w' w.heap.size (fun _=>True) v0 l ∧ Below w.heap.size w w':=by
 have q33 : ∀ (w : World) (a : Option Addr) (n c n' c' : Nat),(binOp .eql 24 (.slice a n c) (.slice none n' c')).run Tryz.prog w = .ok (.bool a.isNone) w:=fun w a n c n' c'=>Lib.run_eql_slice_nil w _ _ a n c n' c' Tryz.underlying24
 have HR:=hidF hr
 clear hr
 cases A0 with
 | none =>
  obtain ⟨rfl,h0⟩:=C_empty HR.out
  go_enter Tryz.func45,Tryz.ntmps45
  go_wp2
  go_ret
  exact ⟨_,rfl,Kd.R_nil _ _ _ _ _,Below.refl _ _⟩
 | some ad =>
  have HB:=Aside0.mk (Below.refl w.heap.size w)
  go_enter Tryz.func45,Tryz.ntmps45
  go_wp2_with (first
   | ((with_reducible refine gate_dst (N:=5) rfl ?_);refine Kd.R_lit k64 _ 64 ?hg (N:=5) ?hd (xs:=([] : List S64)) (inner:=[]) (ok:=fun _=>True) (okp:=fun _=>True) ?hr ?hp (fun _ hk=>hk) trivial (Below.refl _ _) (Nat.le_refl _) (by simp) ?_;(case hd=>rfl);(case hg=>rfl);(case hr=>first | (go_simp;done) | (go_simp;rfl));(case hp=>exact Reps.none _ _);intro v1 w1 ho1 hb1 hg1 hn1;clear hg1 hn1;have HO1:=Aside0.mk ho1;have HB1:=Aside0.mk hb1;clear ho1 hb1)
   | ((with_reducible refine gate_dst (N:=7) rfl ?_);refine Kd.R_append_rows k64 (w0:=w) w.heap.size rfl (.tmp 5) (.tmp 6) 24 64 (.agg #[(.int .i64 0),(.int .i64 0),(.int .u64 0),(.string ⟨#[]⟩)]) 40 rfl Tryz.underlying24 infoVv rfl (by decide) (by omega) v1 [] l _ _ _ (fun _=>True) (fun _=>False) rfl rfl ?aO ?aR (fun _ _ h=>h) (fun _ h=>h.elim) ?aF ?aB ?aS ?aL ?_;(case aO=>exact HO1.out);(case aR=>exact Kd.C_below HR.out HB1.out);(case aF=>exact fun _ _=>trivial);(case aB=>exact HB1.out);(case aS=>exact HB1.out.size);(case aL=>simp;omega);intro v2 w2 ho2 hb2 hg2 hn2;clear hg2 hn2;have HO2:=Aside0.mk ho2;have HB2:=Aside0.mk hb2;clear ho2 hb2))
  go_ret
  exact ⟨_,rfl,HO2.out,HB2.out⟩
end Go.Proofs.YthpkjkcfhipjhaaGreatDoor
end
section
namespace Go.Proofs.YthpkjkcfhipjhaaGreatDoor
set_option linter.unusedVariables false
set_option linter.unusedSimpArgs false
open Go.RowKit Go.Proofs.YthpkjkcfhipjhaaGreatDoorW.PrintWords Go.Proofs.YthpkjkcfhipjhaaGreatDoorW.PrintLast PRW PZA
/-- a cell's value -/
abbrev CellV:={ v : Value // v.oneCell' = true }
def kRaw1 : Kd CellV:=Kd.scalar (fun v=>v.val) (fun v=>v.2)
def kRaw2 : Kd (CellV × CellV):=Kd.pair kRaw1 kRaw1
theorem kRaw2_M {w : World} {base : Nat} {ok : Nat → Prop} {x : CellV × CellV} {cs : List Value} (h : kRaw2.M w base ok x cs) : cs = [x.1.val,x.2.val]:=by
 obtain ⟨c0,c1,rfl,h0,h1⟩:=h
 rw [show c0 = [x.1.val] from h0,show c1 = [x.2.val] from h1];rfl
theorem kRaw2_mk (w : World) (x : CellV × CellV) : kRaw2.K w x [x.1.val,x.2.val]:=⟨[x.1.val],[x.2.val],rfl,rfl,rfl⟩
theorem kRaw2_KM {w : World} {base : Nat} {ok : Nat → Prop} {x : CellV × CellV} {cs : List Value} (h : kRaw2.K w x cs) : kRaw2.M w base ok x cs:=h
section
variable {w0 : World}
def Ent.raw (e : Ent w0) : CellV × CellV:=(⟨.slice e.A e.x.f0.length e.c,rfl⟩,⟨.int .i64 e.x.f1,rfl⟩)
theorem choose_ltE {α : Type} [Inhabited α] {n : Nat} {P : Nat → α → Prop} (h : ∀ i,i < n → ∃ x,P i x) : ∃ F : Nat → α,∀ i,i < n → P i (F i):=by
 classical
 refine ⟨fun i=>if hi : i < n then Classical.choose (h i hi) else default,fun i hi=>?_⟩
 simp only [hi,dif_pos]
 exact Classical.choose_spec (h i hi)
theorem ents_of {A : Option Addr} {l : List S48} (hC : Kd.C k48 w0 A l.length l) (hR : ∀ x ∈ l,rngL x.f0 = true ∧ I64 x.f1) (hS : ∀ x ∈ l,soundL x.f0 = true) :
  ∃ xs : List (Ent w0),xs.map Ent.x = l ∧ Kd.C kRaw2 w0 A l.length (xs.map Ent.raw):=by
 obtain ⟨h1,h2,h3⟩:=hC
 rcases Nat.eq_zero_or_pos l.length with h0 | h0
 ·obtain rfl:=List.eq_nil_of_length_eq_zero h0
  exact ⟨[],rfl,rfl,h2,fun h=>absurd h (by simp)⟩
 ·obtain ⟨ad,rfl,hc⟩:=h3 h0
  have key : ∀ i,i < l.length → ∃ e : Ent w0,l[i]? = some e.x ∧ ∀ j u,e.enc[j]? = some u → w0.cell? (ad.add (i * 2 + j)) = some u:=by
   intro i hi
   have hg:=List.getElem?_eq_getElem hi
   obtain ⟨c,_,hK,hcell⟩:=hc i _ hg
   obtain ⟨A0,c0,rfl,hle,hK0⟩:=k48_open hK
   have hm:=List.getElem_mem hi
   exact ⟨⟨A0,c0,l[i],hle,hK0,(hR _ hm).1,hS _ hm,(hR _ hm).2⟩,hg,hcell⟩
  obtain ⟨F,hF⟩:=choose_ltE key
  refine ⟨(List.range l.length).map F, ?_, ?_,h2,fun _=>⟨ad,rfl,fun j p hj=>?_⟩⟩
  ·apply List.ext_getElem?
   intro i
   by_cases hi : i < l.length
   ·rw [(hF i hi).1];simp [hi]
   ·rw [List.getElem?_eq_none (by simp;omega),List.getElem?_eq_none (by omega)]
  ·simp
  ·have hjl : j < l.length:=by
    have:=(List.getElem?_eq_some_iff.1 hj).1
    simpa using this
   have : p = (F j).raw:=by simpa [hjl] using hj.symm
   subst this
   exact ⟨_,rfl,kRaw2_mk _ _,(hF j hjl).2⟩
theorem reps_raw {base : Nat} {ok : Nat → Prop} {W : World} {xs : List (Ent w0)} {inner : List Value} (h : Reps (kRaw2.M W base ok) 2 (xs.map Ent.raw) inner) : inner = flatE xs:=by
 obtain ⟨h1,h2⟩:=h
 rw [List.length_map] at h1
 have e : ∀ (j : Nat) (hj : j < xs.length),(inner.drop (j * 2)).take 2 = (gx xs j).enc:=by
  intro j hj
  have:=h2 j (gx xs j).raw (by rw [List.getElem?_map,List.getElem?_eq_getElem hj,gx_at xs j hj];rfl)
  exact kRaw2_M this
 apply List.ext_getElem?
 intro i
 by_cases hi : i / 2 < xs.length
 ·have e1:=e (i / 2) hi
  have e2 : inner[i]? = ((inner.drop (i / 2 * 2)).take 2)[i % 2]?:=by
   rw [List.getElem?_take,if_pos (by omega),List.getElem?_drop];congr 1;omega
  rw [e2,e1]
  rcases Nat.mod_two_eq_zero_or_one i with h0 | h0
  ·have:=flatE_get0 xs (i / 2) hi
   rw [show i / 2 * 2 = i by omega] at this
   rw [this,h0];rfl
  ·have:=flatE_get1 xs (i / 2) hi
   rw [show i / 2 * 2 + 1 = i by omega] at this
   rw [this,h0];rfl
 ·rw [List.getElem?_eq_none (by omega),List.getElem?_eq_none (by rw [flatE_len];omega)]
theorem sb_of_R {W : World} {v : Value} {xs : List (Ent w0)} (h : kRaw2.R 48 W w0.heap.size (fun _=>True) v (xs.map Ent.raw)) (hb : Below w0.heap.size w0 W) :
  ∃ A c,v = .slice A xs.length c ∧ xs.length ≤ c ∧ (0 < xs.length → ∃ b,A = some ⟨b,0,none⟩ ∧ SB w0 b xs W):=by
 obtain ⟨_,inner,ho,hr⟩:=h
 rw [List.length_map] at ho
 rcases ho.2 with ⟨rfl,h0⟩ | ⟨g,cap,cur,rfl,hg,hh,hnc,_,hcs,htk⟩
 ·rw [h0];exact ⟨none,0,rfl,Nat.le_refl _,fun h=>absurd h (Nat.lt_irrefl _)⟩
 ·refine ⟨_,cap,rfl,hnc,fun _=>⟨g,rfl,hb,hg,cur.toList.drop (xs.length * 2), ?_⟩⟩
  have e:=reps_raw hr
  rw [← e,← htk]
  have : cur.toList.take (xs.length * kRaw2.sz) ++ cur.toList.drop (xs.length * 2) = cur.toList:=List.take_append_drop _ _
  rw [this];exact hh
end
set_option maxRecDepth 100000 in
set_option maxHeartbeats 4000000 in
theorem cloneEnt_c {w0 : World} (A0 : Option Addr) (c0 n : Nat) (w : World) (hB : Below w0.heap.size w0 w) (xs : List (Ent w0)) (hn : xs.length = n) (hr : Kd.C kRaw2 w A0 n (xs.map Ent.raw)) (hl : n ≤ 1000000) :
  Calls Tryz.prog 40 #[.slice A0 n c0] w fun e w'=>∃ A c,e = .returned (.slice A n c) ∧ n ≤ c ∧ (0 < n → ∃ b,A = some ⟨b,0,none⟩ ∧ SB w0 b xs w') ∧ Below w.heap.size w w':=by
 have q33 : ∀ (w : World) (a : Option Addr) (n c n' c' : Nat),(binOp .eql 22 (.slice a n c) (.slice none n' c')).run Tryz.prog w = .ok (.bool a.isNone) w:=fun w a n c n' c'=>Lib.run_eql_slice_nil w _ _ a n c n' c' Tryz.underlying22
 have HR:=hidF hr
 have HN:=hidF hn
 have HBh:=hidF hB
 clear hr hn hB
 cases A0 with
 | none =>
  obtain ⟨h1,h0⟩:=C_empty HR.out
  have HZ:=hidF h0
  clear h0 h1
  go_enter Tryz.func40,Tryz.ntmps40
  go_wp2
  go_ret
  have h0:=HZ.out
  exact ⟨none,0,by rw [h0] <;> rfl,by omega,fun h=>by omega,Below.refl _ _⟩
 | some ad =>
  go_enter Tryz.func40,Tryz.ntmps40
  go_wp2_with (first
   | ((with_reducible refine gate_dst (N:=5) rfl ?_);refine Kd.R_lit kRaw2 _ 48 ?hg (N:=5) ?hd (xs:=([] : List (CellV × CellV))) (inner:=[]) (ok:=fun _=>True) (okp:=fun _=>True) ?hr ?hp (fun _ hk=>hk) trivial (Below.refl _ _) (Nat.le_refl _) (by simp) ?_;(case hd=>rfl);(case hg=>rfl);(case hr=>first | (go_simp;done) | (go_simp;rfl));(case hp=>exact Reps.none _ _);intro v1 w1 ho1 hb1 hg1 hn1;clear hg1 hn1;have HO1:=Aside0.mk ho1;have HB1:=Aside0.mk hb1;clear ho1 hb1)
   | ((with_reducible refine gate_dst (N:=7) rfl ?_);refine Kd.R_append_rows kRaw2 (Rr:=kRaw2.K w1) (w0:=w) w.heap.size rfl (.tmp 5) (.tmp 6) 22 48 (.agg #[(.slice none 0 0),(.int .i64 0)]) 32 rfl Tryz.underlying22 infoE rfl (by decide) (by omega) v1 [] (xs.map Ent.raw) _ _ _ (fun _=>True) (fun _=>False) rfl rfl ?aO ?aR (fun _ _ h=>kRaw2_KM h) (fun _ h=>h.elim) ?aF ?aB ?aS ?aL ?_;(case aO=>exact HO1.out);(case aR=>exact Kd.C_below HR.out HB1.out);(case aF=>exact fun _ _=>trivial);(case aB=>exact HB1.out);(case aS=>exact HB1.out.size);(case aL=>simp;omega);intro v2 w2 ho2 hb2 hg2 hn2;clear hg2 hn2;have HO2:=Aside0.mk ho2;have HB2:=Aside0.mk hb2;clear ho2 hb2))
  go_ret
  have ho:=HO2.out
  rw [List.nil_append] at ho
  obtain ⟨A,c,rfl,hc,hS⟩:=sb_of_R (Kd.R_lower ho HBh.out.size) (HBh.out.trans (HB2.out.mono HBh.out.size))
  rw [HN.out] at hS hc ⊢
  exact ⟨A,c,rfl,hc,hS,HB2.out⟩
set_option maxRecDepth 100000 in
set_option maxHeartbeats 4000000 in
theorem insSort0 (A : Option Addr) (c : Nat) (w : World) : Calls Tryz.prog 100 #[.slice A 0 c,.int .i64 0,.int .i64 0,byRowV] w fun r w'=>r = .returned (.tuple #[]) ∧ w = w':=by
 go_enter Tryz.func100,Tryz.ntmps100
 go_wp2
 go_loop [8] (fun v=>v = Value.int .i64 1) (fun _=>0)
 case atStart=>rfl
 case round =>
  obtain rfl:=hrel
  go_wp2
  first | go_end0 | ((try simp only [Exit.inBlock,Exit.then]);refine bodyPost_ret (results_none rfl _ _ _) rfl ?_)
  exact ⟨rfl,rfl⟩
set_option maxRecDepth 100000 in
set_option maxHeartbeats 4000000 in
theorem stable0 (A : Option Addr) (c : Nat) (w : World) : Calls Tryz.prog 74 #[.slice A 0 c,.int .i64 0,byRowV] w fun r w'=>r = .returned (.tuple #[]) ∧ w = w':=by
 go_enter Tryz.func74,Tryz.ntmps74
 go_wp2
 go_loop [7,8] (fun va vb=>va = Value.int .i64 0 ∧ vb = Value.int .i64 20) (fun _ _=>0)
 case atStart=>exact ⟨rfl,rfl⟩
 case round =>
  obtain ⟨rfl,rfl⟩:=hrel
  go_wp2_with (go_at_call 100;((with_reducible refine (insSort0 _ _ _).mono ?_);rintro r w1 ⟨rfl,rfl⟩))
  go_loop [6] (fun vk=>vk = Value.int .i64 20) (fun _=>0)
  case atStart=>rfl
  case round =>
   obtain rfl:=hrel
   go_wp2
   first | go_end0 | ((try simp only [Exit.inBlock,Exit.then]);refine bodyPost_ret (results_none rfl _ _ _) rfl ?_)
   exact ⟨rfl,rfl⟩
theorem sort0 (A : Option Addr) (c : Nat) (w : World) : Calls Tryz.prog 41 #[.slice A 0 c,byRowV] w fun r w'=>r = .returned (.tuple #[]) ∧ w = w':=by
 go_enter Tryz.func41,Tryz.ntmps41
 go_wp2_with (go_at_call 74;((with_reducible refine (stable0 _ _ _).mono ?_);rintro r w1 ⟨rfl,rfl⟩))
 first | go_end0 | ((try simp only [Exit.inBlock,Exit.then]);refine bodyPost_ret (results_none rfl _ _ _) rfl ?_)
 exact ⟨rfl,rfl⟩
theorem sort_c {w0 : World} (b cap : Nat) (xs : List (Ent w0)) (n : Nat) (hn : xs.length = n) (w : World) (h : SB w0 b xs w) (hs : n ≤ 1000000) :
  Calls Tryz.prog 41 #[.slice (some ⟨b,0,none⟩) n cap,byRowV] w fun r w'=>r = .returned (.tuple #[]) ∧ ∃ ys,SB w0 b ys w' ∧ Srt (leC Ent.cf) 0 n ys ∧ Moved 0 n xs ys:=by
 have C:=stable_c b cap xs w h (by omega)
 rw [hn] at C
 have HC:=hidF C
 clear C hn h
 go_enter Tryz.func41,Tryz.ntmps41
 go_wp2_with (go_at_call 74;((with_reducible refine HC.out.mono ?_);rintro r w1 ⟨rfl,ys,k1,k2,k3⟩;have HB1:=hidF k1;have HS1:=hidF k2;have HM1:=hidF k3;clear k1 k2 k3))
 first | go_end0 | ((try simp only [Exit.inBlock,Exit.then]);refine bodyPost_ret (results_none rfl _ _ _) rfl ?_)
 exact ⟨rfl,ys,HB1.out,HS1.out,HM1.out⟩
end Go.Proofs.YthpkjkcfhipjhaaGreatDoor
end
section
namespace Go.Proofs.YthpkjkcfhipjhaaGreatDoor
set_option linter.unusedVariables false
set_option linter.unusedSimpArgs false
open Go.RowKit Go.Proofs.YthpkjkcfhipjhaaGreatDoorW.PrintWords Go.Proofs.YthpkjkcfhipjhaaGreatDoorW.PrintLast PRW PZA
theorem wrapi64' (a : Int) : IntKind.i64.wrap a = wrap64 a:=by rw [IntKind.wrap_i64];unfold wrap64;rfl
theorem add64_r (x y : Int) (hx : 0 ≤ x) (hy : 0 ≤ y) (w : World) : (callFunc 75 #[.int .u64 x,.int .u64 y,.int .u64 0]).run Tryz.prog w = .ok (.value (.tuple #[.int .u64 ((x + y) % 18446744073709551616),.int .u64 ((x + y) / 18446744073709551616)])) w:=by
 rw [run_callFunc_extern Tryz.func75 (by kernel_rfl) (by kernel_rfl) (by kernel_rfl) (e:=add64Entry) (by kernel_rfl),run_add64 x y 0 hx hy (by omega) (by omega),Int.add_zero]
 rfl
set_option maxRecDepth 100000 in
set_option maxHeartbeats 4000000 in
theorem add_c (s t h l h' l' : Int) (eh : s / 18446744073709551616 = h) (el : s % 18446744073709551616 = l) (eh' : (s + t) / 18446744073709551616 = h') (el' : (s + t) % 18446744073709551616 = l') (hs : -38685626227668133590597632 ≤ s ∧ s ≤ 38685626227668133590597632) (ht : I64 t) (w : World) :
  Calls Tryz.prog 43 #[.agg #[.int .i64 h,.int .u64 l],.int .i64 t] w fun e w'=>e = .returned (.agg #[.int .i64 h',.int .u64 l']) ∧ Below w.heap.size w w':=by
 have hu:=Tryz.underlying58
 obtain ⟨ht1,ht2⟩:=ht
 obtain ⟨u,eu⟩ : ∃ u,t % 18446744073709551616 = u:=⟨_,rfl⟩
 obtain ⟨d,ed⟩ : ∃ d,t / 9223372036854775808 = d:=⟨_,rfl⟩
 obtain ⟨k,ek⟩ : ∃ k,(l + u) / 18446744073709551616 = k:=⟨_,rfl⟩
 obtain ⟨h1,eh1⟩ : ∃ h1,h + d = h1:=⟨_,rfl⟩
 have e4 : h1 + k = h':=by omega
 have r1 : -9223372036854775808 ≤ h1 ∧ h1 ≤ 9223372036854775807 ∧ -9223372036854775808 ≤ h' ∧ h' ≤ 9223372036854775807 ∧ 0 ≤ k ∧ k ≤ 1:=by omega
 have r2 : l' = (l + u) % 18446744073709551616 ∧ 0 ≤ l ∧ 0 ≤ u:=by omega
 have v1 : IntKind.u64.wrap t = u:=by rw [IntKind.wrap_u64];exact eu
 clear eh el eh' el' eu
 have v2 : IntKind.i64.wrap (h + d) = h1:=by clear v1 ed;rw [IntKind.wrap_i64];omega
 have v3 : IntKind.i64.wrap k = k:=by clear v1 v2;rw [IntKind.wrap_i64];omega
 have v4 : IntKind.i64.wrap (h1 + k) = h':=by clear v1 v2 v3;rw [IntKind.wrap_i64];omega
 have a1 : ∀ W,(callFunc 75 #[.int .u64 l,.int .u64 u,.int .u64 0]).run Tryz.prog W = .ok (.value (.tuple #[.int .u64 l',.int .u64 k])) W:=fun W=>by
  rw [add64_r l u r2.2.1 r2.2.2,ek,← r2.1]
 obtain ⟨r3,r4,r5,r6,r7,r8⟩:=r1
 have HV : Hid (wrap64 (wrap64 (h + t / 9223372036854775808) + k) = h'):=hidF (by rw [← wrapi64',← wrapi64',ed,v2,v4])
 clear ek eh1 e4 r2 ed v2 v4
 go_enter Tryz.func43,Tryz.ntmps43
 go_wp2_with (simp only [a1])
 exact bodyPost_ret (v:=.agg #[.int .i64 (wrap64 (wrap64 (h + t / 9223372036854775808) + k)),.int .u64 l']) (by simp [results,Tryz.results43,go_sem, *]) rfl ⟨by rw [HV.out],(by repeat (first | (with_reducible exact Below.refl _ _) | (with_reducible refine below_al ?_ _) | (with_reducible refine below_drewN ?_ _) | (with_reducible refine Below.drew ?_) | (with_reducible refine below_via (by assumption) ?_) | (with_reducible refine below_sc ?_ ?_ _;· (first | (simp;done) | (simp;omega) | omega))))⟩
/-- whether a weight may be -/
def fair (w : Int) : Bool:=decide (-4611686018427387904 ≤ w) && decide (w ≤ 4611686018427387904)
theorem isFair_c (a : Int) (w : World) : Calls Tryz.prog 39 #[.int .i64 a] w fun e w'=>e = .returned (.bool (fair a)) ∧ w = w':=by
 unfold fair
 by_cases h1 : -4611686018427387904 ≤ a
 ·rw [decide_eq_true h1]
  go_enter Tryz.func39,Tryz.ntmps39
  go_wp2
  go_ret
  exact ⟨by simp <;> rfl,rfl⟩
 ·rw [decide_eq_false h1]
  go_enter Tryz.func39,Tryz.ntmps39
  go_wp2
  go_ret
  exact ⟨by simp <;> rfl,rfl⟩
set_option maxRecDepth 100000 in
set_option maxHeartbeats 4000000 in
theorem weight_c (s h l : Int) (eh : s / 18446744073709551616 = h) (el : s % 18446744073709551616 = l) (hs : -38685626227668133590597632 ≤ s ∧ s ≤ 38685626227668133590597632) (w : World) :
  Calls Tryz.prog 44 #[.agg #[.int .i64 h,.int .u64 l]] w fun e w'=>∃ r,e = .returned (.tuple #[.int .i64 r,.bool (fair s)]) ∧ (fair s = true → r = s) ∧ Below w.heap.size w w':=by
 have hu:=Tryz.underlying58
 obtain ⟨r,er⟩ : ∃ r,IntKind.i64.wrap l = r:=⟨_,rfl⟩
 obtain ⟨d,ed⟩ : ∃ d,r / 9223372036854775808 = d:=⟨_,rfl⟩
 have HE : Hid (decide (h = d) = true → r = s):=hidF fun e=>by
  have e:=of_decide_eq_true e
  rw [IntKind.wrap_i64] at er;omega
 have HF : Hid (decide (h = d) = false → fair s = false):=hidF fun e=>by
  have e:=of_decide_eq_false e
  rw [IntKind.wrap_i64] at er
  unfold fair
  by_cases h1 : -4611686018427387904 ≤ s <;> by_cases h2 : s ≤ 4611686018427387904
  ·omega
  all_goals simp [h1,h2]
 clear eh el
 cases hd : decide (h = d)
 ·have hd1 : (h == d) = false:=by rw [← hd];rfl
  have hf:=HF.out hd
  rw [hf]
  clear HE HF hd hf
  go_enter Tryz.func44,Tryz.ntmps44
  go_wp2
  go_ret2
  exact ⟨r,rfl,(fun h=>by cases h),(by repeat (first | (with_reducible exact Below.refl _ _) | (with_reducible refine below_al ?_ _) | (with_reducible refine below_drewN ?_ _) | (with_reducible refine Below.drew ?_) | (with_reducible refine below_via (by assumption) ?_) | (with_reducible refine below_sc ?_ ?_ _;· (first | (simp;done) | (simp;omega) | omega))))⟩
 ·have hd1 : (h == d) = true:=by rw [← hd];rfl
  have he:=HE.out hd
  have HR:=hidF he
  rw [← he]
  clear HE HF hd he
  go_enter Tryz.func44,Tryz.ntmps44
  go_wp2_with (go_at_call 39;((with_reducible refine (isFair_c _ _).mono ?_);rintro e w1 ⟨rfl,rfl⟩))
  go_ret2
  exact ⟨r,rfl,fun _=>rfl,(by repeat (first | (with_reducible exact Below.refl _ _) | (with_reducible refine below_al ?_ _) | (with_reducible refine below_drewN ?_ _) | (with_reducible refine Below.drew ?_) | (with_reducible refine below_via (by assumption) ?_) | (with_reducible refine below_sc ?_ ?_ _;· (first | (simp;done) | (simp;omega) | omega))))⟩
/-- whether an entry may be -/
def okE (x : S48) : Bool:=fair x.f1 && soundL x.f0
/-- function g tells p of an entry -/
def EntPred (g : Nat) (p : S48 → Bool) : Prop:=∀ (x : S48) (A : Option Addr) (c : Nat) (W : World),Kd.C k64 W A x.f0.length x.f0 → x.f0.length ≤ c → rngL x.f0 = true → Calls Tryz.prog g #[.agg #[.slice A x.f0.length c,.int .i64 x.f1]] W fun e w'=>e = .returned (.bool (p x)) ∧ Below W.heap.size W w'
theorem make1_c : EntPred 38 (fun x=>!okE x):=by
 intro x A c W hC hc hr
 have HH:=hidF (fun W' (hb : Below W.heap.size W W')=>rowSound_c A c x.f0 W' (Kd.C_below hC hb) (rngL_I hr))
 clear hC hr
 unfold okE
 cases hf : fair x.f1
 ·have FF : ∀ V,Calls Tryz.prog 39 #[.int .i64 x.f1] V fun e w'=>e = .returned (.bool false) ∧ V = w':=fun V=>by rw [← hf];exact isFair_c _ _
  have HF:=hidF hf
  clear hf
  go_enter Tryz.func38,Tryz.ntmps38
  go_wp2_with (go_at_call 39;((with_reducible refine (FF _).mono ?_);rintro e w1 ⟨rfl,rfl⟩))
  go_ret
  exact ⟨by (show _ = Ending.returned (.bool (!(fair x.f1 && soundL x.f0))));rw [HF.out];rfl,(by repeat (first | (with_reducible exact Below.refl _ _) | (with_reducible refine below_al ?_ _) | (with_reducible refine below_drewN ?_ _) | (with_reducible refine Below.drew ?_) | (with_reducible refine below_via (by assumption) ?_) | (with_reducible refine below_sc ?_ ?_ _;· (first | (simp;done) | (simp;omega) | omega))))⟩
 ·have FF : ∀ V,Calls Tryz.prog 39 #[.int .i64 x.f1] V fun e w'=>e = .returned (.bool true) ∧ V = w':=fun V=>by rw [← hf];exact isFair_c _ _
  have HF:=hidF hf
  clear hf
  go_enter Tryz.func38,Tryz.ntmps38
  go_wp2_with (first | (go_at_call 39;((with_reducible refine (FF _).mono ?_);rintro e w1 ⟨rfl,rfl⟩)) | (go_at_call 29;((with_reducible refine (HH.out _ (by repeat (first | (with_reducible exact Below.refl _ _) | (with_reducible refine below_al ?_ _) | (with_reducible refine below_drewN ?_ _) | (with_reducible refine Below.drew ?_) | (with_reducible refine below_via (by assumption) ?_) | (with_reducible refine below_sc ?_ ?_ _;· (first | (simp;done) | (simp;omega) | omega))))).mono ?_);rintro e w1 ⟨rfl,hb⟩)))
  go_ret
  exact ⟨by (show _ = Ending.returned (.bool (!(fair x.f1 && soundL x.f0))));rw [HF.out];rfl,(by repeat (first | (with_reducible exact Below.refl _ _) | (with_reducible refine below_al ?_ _) | (with_reducible refine below_drewN ?_ _) | (with_reducible refine Below.drew ?_) | (with_reducible refine below_via (by assumption) ?_) | (with_reducible refine below_sc ?_ ?_ _;· (first | (simp;done) | (simp;omega) | omega))))⟩
theorem enter_make1 : ∀ args w,(callFunc 38 args).run Tryz.prog w = .ok (.enter 38 args) w:=by
 intro args w
 simp [go_sem,Tryz.func38]
theorem drop_rdE (L : List S48) (c : Int) (h0 : 0 ≤ c) (h : c < L.length) : L.drop c.toNat = rd_T48 L c :: L.drop (c + 1).toNat:=by
 have h' : c.toNat < L.length:=by omega
 rw [List.drop_eq_getElem_cons h',show (c + 1).toNat = c.toNat + 1 by omega]
 unfold rd_T48
 simp [h']
theorem rd_memE (L : List S48) (c : Int) (h0 : 0 ≤ c) (h : c < L.length) : rd_T48 L c ∈ L:=by
 have h' : c.toNat < L.length:=by omega
 unfold rd_T48
 simp [h']
set_option maxRecDepth 100000 in
set_option maxHeartbeats 2000000 in
theorem indexFuncE_c (g : Nat) (eg : ∀ args w,(callFunc g args).run Tryz.prog w = .ok (.enter g args) w) (p : S48 → Bool) (hp : EntPred g p) (A0 : Option Addr) (c0 : Nat) (l : List S48) (w : World)
  (hr : Kd.C k48 w A0 l.length l) (hI : ∀ x ∈ l,rngL x.f0 = true) :
  Calls Tryz.prog 73 #[.slice A0 l.length c0,.func (.func g) #[] #[]] w fun e w'=>e = .returned (.int .i64 (idxP p l 0)) ∧ Below w.heap.size w w':=by
 have HR:=hidF hr
 have HI:=hidF hI
 have HPP:=hidF hp
 have hl : l.length ≤ 9223372036854775807:=hr.2.1
 clear hr hI hp
 have hu:=Tryz.underlying48
 go_enter Tryz.func73,Tryz.ntmps73
 go_wp2
 go_loopw [8] (fun v wr=>∃ c : Int,v = Value.int .i64 c ∧ 0 ≤ c ∧ c ≤ l.length ∧ Below w.heap.size w wr ∧ Hid (idxP p l 0 = idxP p (l.drop c.toNat) c)) (fun v _=>l.length - natOf v)
 case atStart=>exact ⟨0,rfl,by omega,by omega,Below.refl _ _,hidF (by simp)⟩
 case round =>
  obtain ⟨c,rfl,hc0,hcl,HB,hE⟩:=hrel
  by_cases hlt : c < l.length
  ·have hx:=HI.out _ (rd_memE l c hc0 hlt)
   have hD:=hidF (drop_rdE l c hc0 hlt)
   obtain ⟨ad,A1,c1,e,h0,h1,hl1,hC1⟩:=at_T48 HR.out c hc0 hlt
   cases e
   have cS:=HPP.out _ A1 c1 wr (Kd.C_below hC1 HB) hl1 hx
   replace h0:=(HB.cell (World.block_lt_of_cell? w _ h0)).trans h0
   replace h1:=(HB.cell (World.block_lt_of_cell? w _ h1)).trans h1
   clear hC1
   cases hpc : p (rd_T48 l c)
   ·have hE2 : Hid (idxP p l 0 = idxP p (l.drop (c + 1).toNat) (c + 1)):=hidF (by rw [hE.out,hD.out,idxP,hpc];rfl)
    rw [hpc] at cS
    have CS:=hidF cS
    clear cS hpc hE hx
    go_wp2_with (go_at_fn g;refine CS.out.mono ?_;rintro e W' ⟨rfl,hb⟩)
    go_roundw
    case rel=>exact ⟨c + 1,rfl,by omega,by omega,HB.trans (hb.mono HB.size),hE2⟩
    case measure=>simp [natOf];omega
   ·have hE2 : Hid (idxP p l 0 = c):=hidF (by rw [hE.out,hD.out,idxP,hpc];rfl)
    rw [hpc] at cS
    have CS:=hidF cS
    clear cS hpc hE hx
    go_wp2_with (go_at_fn g;refine CS.out.mono ?_;rintro e W' ⟨rfl,hb⟩)
    go_ret
    exact ⟨by rw [hE2.out] <;> rfl,HB.trans (hb.mono HB.size)⟩
  ·have hce : c = l.length:=by omega
   have hE2 : Hid (idxP p l 0 = -1):=hidF (by rw [hE.out,hce,List.drop_of_length_le (by omega)];rfl)
   clear hce
   go_wp2
   go_ret
   exact ⟨by rw [hE2.out] <;> rfl,HB⟩
set_option maxRecDepth 100000 in
theorem containsFuncE_c (g : Nat) (eg : ∀ args w,(callFunc g args).run Tryz.prog w = .ok (.enter g args) w) (p : S48 → Bool) (hp : EntPred g p) (A0 : Option Addr) (c0 : Nat) (l : List S48) (w : World)
  (hr : Kd.C k48 w A0 l.length l) (hI : ∀ x ∈ l,rngL x.f0 = true) :
  Calls Tryz.prog 37 #[.slice A0 l.length c0,.func (.func g) #[] #[]] w fun e w'=>e = .returned (.bool (l.any p)) ∧ Below w.heap.size w w':=by
 have HH:=hidF (indexFuncE_c g eg p hp A0 c0 l w hr hI)
 have hA:=idxP_any p l 0 (by omega)
 clear hr hI
 have HA:=hidF hA
 clear hA
 go_enter Tryz.func37,Tryz.ntmps37
 go_wp2_with (go_at_call 73;refine HH.out.mono ?_;rintro e w' ⟨rfl,hb⟩)
 go_ret
 exact ⟨by rw [← HA.out] <;> rfl,hb⟩
end Go.Proofs.YthpkjkcfhipjhaaGreatDoor
end
section
namespace Go.Proofs.YthpkjkcfhipjhaaGreatDoor
set_option linter.unusedVariables false
set_option linter.unusedSimpArgs false
open Go.RowKit Go.Proofs.YthpkjkcfhipjhaaGreatDoorW.PrintWords Go.Proofs.YthpkjkcfhipjhaaGreatDoorW.PrintLast PRW PZA
/-- the order of all rows by their bytes -/
def cT (a b : List S64) : Int:=Lib.compareBytes (encR (a.map toV)) (encR (b.map toV))
theorem cT_ord : OrdC cT:=⟨fun _ _=>cb_anti _ _,fun _ _ _=>cb_trans _ _ _⟩
/-- rows that are sound and in range -/
def okR (a : List S64) : Bool:=soundL a && rngL a
theorem okR_iff {a : List S64} : okR a = true ↔ soundL a = true ∧ rngL a = true:=by unfold okR;simp
theorem cT_ls {a b : List S64} (ha : okR a = true) (hb : okR b = true) : cmpLS a b = cT a b:=zcmp_cb (okR_iff.1 ha).1 (okR_iff.1 ha).2 (okR_iff.1 hb).1 (okR_iff.1 hb).2
theorem cT_same (a b : List S64) (ha : okR a = true) (hb : okR b = true) (h : cT a b = 0) : a = b :=
 (zcmp_same (okR_iff.1 ha).1 (okR_iff.1 ha).2 (okR_iff.1 hb).1 (okR_iff.1 hb).2).1 (by rw [cT_ls ha hb];exact h)
def prE (x : S48) : List S64 × Int:=(x.f0,x.f1)
def unE (p : List S64 × Int) : S48:=⟨p.1,p.2⟩
/-- what Make makes of a list -/
def makeP (l : List S48) : List S48 × Int :=
 if l.all okE then (if (sums cT (l.map prE)).all (fun p=>fair p.2) then ((nz (sums cT (l.map prE))).map unE,0) else ([],11)) else ([],1)
section
variable {α : Type} {cf : α → α → Int}
theorem tw_of_take {β : Type} (p : β → Bool) : ∀ (l : List β) (k : Nat),(∀ y ∈ l.take k,p y = true) → (k = l.length ∨ ∃ z,l[k]? = some z ∧ p z = false) → l.takeWhile p = l.take k ∧ l.dropWhile p = l.drop k
 | [],k,_,_=>by simp
 | x :: t,0,_,h=>by
  rcases h with h | ⟨z,hz,e⟩
  ·simp at h
  ·simp at hz;subst hz;simp [e]
 | x :: t,k + 1,h1,h2=>by
  have hx:=h1 x (by simp)
  obtain ⟨i1,i2⟩:=tw_of_take p t k (fun y hy=>h1 y (by simp [hy])) (by
   rcases h2 with h | ⟨z,hz,e⟩
   ·exact .inl (by simpa using h)
   ·exact .inr ⟨z,by simpa using hz,e⟩)
  simp [hx,i1,i2]
theorem grp_step (O : OrdC cf) (x : α × Int) (t : List (α × Int)) (k : Nat) (hk : ∀ y ∈ (x :: t).take k,eqR cf x.1 y.1 = true) (he : k = (x :: t).length ∨ ∃ z,(x :: t)[k]? = some z ∧ eqR cf x.1 z.1 = false) :
  grp cf (x :: t) = (x.1,(((x :: t).take k).map (·.2)).sum) :: grp cf ((x :: t).drop k) ∧ 1 ≤ k:=by
 have hx : eqR cf x.1 x.1 = true:=decide_eq_true (by have:=O.anti x.1 x.1;omega)
 have hk1 : 1 ≤ k:=by
  rcases Nat.eq_zero_or_pos k with h | h
  ·subst h
   rcases he with h | ⟨z,hz,e⟩
   ·simp at h
   ·simp at hz;subst hz;rw [hx] at e;cases e
  ·exact h
 obtain ⟨i1,i2⟩:=tw_of_take (fun y : α × Int=>eqR cf x.1 y.1) (x :: t) k hk he
 rw [List.takeWhile_cons,if_pos hx] at i1
 rw [List.dropWhile_cons,if_pos hx] at i2
 rw [grp_cons,i2,← i1]
 exact ⟨by simp,hk1⟩
end
/-- in the midst of Make: done are the groups so far, from o on the rest -/
structure Mk (S Q : List (List S64 × Int)) (o : Nat) (zs : List S48) (done : List (List S64 × Int)) : Prop where
 all : S = done ++ grp cT (Q.drop o)
 fairs : done.all (fun p=>fair p.2) = true
 made : zs = (nz done).map unE
 len : done.length ≤ o
theorem Mk.zlen {S Q : List (List S64 × Int)} {o : Nat} {zs : List S48} {done : List (List S64 × Int)} (h : Mk S Q o zs done) : zs.length ≤ o:=by
 rw [h.made,List.length_map]
 exact Nat.le_trans (List.length_filter_le _ _) h.len
theorem Mk.start (Q : List (List S64 × Int)) : Mk (grp cT Q) Q 0 [] []:=⟨by simp,rfl,rfl,Nat.le_refl _⟩
/-- within a group: k of the rest have been taken, s is their sum -/
structure Gr (Q : List (List S64 × Int)) (o k : Nat) (x : List S64) (s : Int) : Prop where
 eq : ∀ y ∈ (Q.drop o).take k,eqR cT x y.1 = true
 sum : s = (((Q.drop o).take k).map (·.2)).sum
 lo : -(k * 4611686018427387904) ≤ s
 hi : s ≤ k * 4611686018427387904
theorem Gr.start (Q : List (List S64 × Int)) (o : Nat) (x : List S64) : Gr Q o 0 x 0:=⟨fun y hy=>by simp at hy,by simp,by simp,by simp⟩
theorem fair_iff {w : Int} : fair w = true ↔ -4611686018427387904 ≤ w ∧ w ≤ 4611686018427387904:=by unfold fair;simp
theorem Gr.step {Q : List (List S64 × Int)} {o k : Nat} {x : List S64} {s : Int} (h : Gr Q o k x s) (y : List S64 × Int) (hy : Q[o + k]? = some y) (he : cT x y.1 = 0) (hf : fair y.2 = true) : Gr Q o (k + 1) x (s + y.2):=by
 have e : (Q.drop o).take (k + 1) = (Q.drop o).take k ++ [y]:=by
  have hg : (Q.drop o)[k]? = some y:=by rw [List.getElem?_drop];exact hy
  obtain ⟨hlt,e⟩:=List.getElem?_eq_some_iff.1 hg
  rw [List.take_succ_eq_append_getElem hlt,e]
 obtain ⟨f1,f2⟩:=fair_iff.1 hf
 have h3:=h.lo;have h4:=h.hi
 refine ⟨fun z hz=>?_, ?_, ?_, ?_⟩
 ·rw [e] at hz
  rcases List.mem_append.1 hz with hz | hz
  ·exact h.eq z hz
  ·rw [List.mem_singleton.1 hz];exact decide_eq_true he
 ·rw [e,h.sum];simp
 ·have : ((k + 1 : Nat) : Int) = k + 1:=by omega
  rw [this];omega
 ·have : ((k + 1 : Nat) : Int) = k + 1:=by omega
  rw [this];omega
theorem Mk.step {S Q : List (List S64 × Int)} {o k : Nat} {zs : List S48} {done : List (List S64 × Int)} {x : List S64 × Int} {s : Int} (h : Mk S Q o zs done) (g : Gr Q o k x.1 s) (hx : Q[o]? = some x) (he : o + k = Q.length ∨ ∃ z,Q[o + k]? = some z ∧ cT x.1 z.1 ≠ 0) :
  S = done ++ (x.1,s) :: grp cT (Q.drop (o + k)) ∧ 1 ≤ k:=by
 obtain ⟨hlt,e⟩:=List.getElem?_eq_some_iff.1 hx
 have hd : Q.drop o = x :: Q.drop (o + 1):=by rw [List.drop_eq_getElem_cons hlt,e]
 have hg:=g.eq
 have hsum:=g.sum
 rw [hd] at hg hsum
 obtain ⟨i1,i2⟩:=grp_step cT_ord x (Q.drop (o + 1)) k hg (by
  rw [← hd]
  rcases he with he | ⟨z,hz,en⟩
  ·exact .inl (by rw [List.length_drop];omega)
  ·exact .inr ⟨z,by rw [List.getElem?_drop];exact hz,decide_eq_false en⟩)
 refine ⟨?_,i2⟩
 rw [h.all,hd,i1,hsum,← hd,List.drop_drop]
theorem Mk.take {S Q : List (List S64 × Int)} {o k : Nat} {zs : List S48} {done : List (List S64 × Int)} {r : List S64} {s : Int} (h : Mk S Q o zs done) (hs : S = done ++ (r,s) :: grp cT (Q.drop (o + k)) ∧ 1 ≤ k) (hf : fair s = true) :
  Mk S Q (o + k) (if s = 0 then zs else zs ++ [⟨r,s⟩]) (done ++ [(r,s)]):=by
 refine ⟨?_, ?_, ?_, ?_⟩
 ·rw [hs.1];simp
 ·rw [List.all_append,h.fairs];simp [hf]
 ·unfold nz
  rw [List.filter_append,List.map_append,h.made]
  by_cases h0 : s = 0
  ·rw [if_pos h0];simp [h0,nz]
  ·rw [if_neg h0];simp [h0,nz,unE]
 ·have:=h.len;have:=hs.2;simp;omega
theorem Mk.over {l : List S48} {Q : List (List S64 × Int)} {o k : Nat} {done : List (List S64 × Int)} {r : List S64} {s : Int} (hok : l.all okE = true) (hs : sums cT (l.map prE) = done ++ (r,s) :: grp cT (Q.drop (o + k)) ∧ 1 ≤ k) (hf : fair s = false) : makeP l = ([],11):=by
 unfold makeP
 rw [hok,hs.1]
 have : (done ++ (r,s) :: grp cT (Q.drop (o + k))).all (fun p=>fair p.2) = false:=by
  rw [List.all_append,List.all_cons];simp [hf]
 rw [this];rfl
theorem Mk.done {l : List S48} {Q : List (List S64 × Int)} {o : Nat} {zs : List S48} {done : List (List S64 × Int)} (hok : l.all okE = true) (h : Mk (sums cT (l.map prE)) Q o zs done) (ho : Q.length ≤ o) : makeP l = (zs,0):=by
 have e:=h.all
 rw [List.drop_of_length_le ho,grp_nil,List.append_nil] at e
 unfold makeP
 rw [hok,e,h.fairs,h.made];rfl
section
variable {w0 : World}
def Ent.pr (e : Ent w0) : List S64 × Int:=(e.x.f0,e.x.f1)
theorem Ent.ok (e : Ent w0) : okR e.x.f0 = true:=okR_iff.2 ⟨e.snd,e.rng⟩
theorem Ent.cfT (e f : Ent w0) : Ent.cf e f = cT e.x.f0 f.x.f0:=cT_ls e.ok f.ok
theorem pr_get (ys : List (Ent w0)) (i : Nat) (h : i < ys.length) : (ys.map Ent.pr)[i]? = some (gx ys i).pr:=by
 rw [List.getElem?_map,List.getElem?_eq_getElem h,gx_at ys i h];rfl
theorem sums_of (l : List S48) (xs ys : List (Ent w0)) (n : Nat) (hl : xs.map Ent.x = l) (hn : xs.length = n) (hs : Srt (leC Ent.cf) 0 n ys) (hm : Moved 0 n xs ys) : grp cT (ys.map Ent.pr) = sums cT (l.map prE):=by
 have e : l.map prE = xs.map Ent.pr:=by rw [← hl,List.map_map];rfl
 refine grp_sums cT_ord okR cT_same ?_ ?_ ?_
 ·rw [e];exact hm.perm.map _
 ·rw [SrtL,List.pairwise_map,List.pairwise_iff_getElem]
  intro i j hi hj hij
  have h1:=hm.len
  have:=hs i j (Nat.zero_le _) hij (by omega)
  rw [gx_at ys i hi,gx_at ys j hj] at this
  have h2 : Ent.cf ys[i] ys[j] ≤ 0:=this
  rw [Ent.cfT] at h2
  exact h2
 ·intro x hx
  rw [e] at hx
  obtain ⟨y,_,rfl⟩:=List.mem_map.1 hx
  exact y.ok
end
end Go.Proofs.YthpkjkcfhipjhaaGreatDoor
end
section
namespace Go.Proofs.YthpkjkcfhipjhaaGreatDoor
set_option linter.unusedVariables false
set_option linter.unusedSimpArgs false
open Go.RowKit Go.Proofs.YthpkjkcfhipjhaaGreatDoorW.PrintWords Go.Proofs.YthpkjkcfhipjhaaGreatDoorW.PrintLast PRW PZA
theorem rd_atE (L : List S48) (i : Nat) (h : i < L.length) : rd_T48 L (i : Int) = L[i]:=by unfold rd_T48;simp [h]
instance : DecidableEq S48:=fun x y=>decidable_of_iff (x.f0 = y.f0 ∧ x.f1 = y.f1) (by
 cases x;cases y;simp)
/-- all numbers are such as the machine has -/
def rngE (l : List S48) : Bool:=l.all fun x=>rngL x.f0 && decide (-9223372036854775808 ≤ x.f1) && decide (x.f1 ≤ 9223372036854775807)
theorem rngE_at {l : List S48} (h : rngE l = true) : ∀ x ∈ l,rngL x.f0 = true ∧ I64 x.f1:=fun x hx=>by
 have:=List.all_eq_true.1 h x hx
 simp [and_assoc] at this
 exact this
theorem rngE_of {l : List S48} (h : ∀ x ∈ l,rngL x.f0 = true ∧ I64 x.f1) : rngE l = true:=List.all_eq_true.2 fun x hx=>by
 obtain ⟨h1,h2,h3⟩:=h x hx
 simp [h1,h2,h3]
/-- how long the rows are at most -/
def shortE (l : List S48) : Prop:=l.length ≤ 1000000 ∧ ∀ x ∈ l,x.f0.length ≤ 9223372036854775807
theorem zsame_ev (l m : List S48) (hl : shortE l) : Ev (fun k=>freshetref03_Same.f k l m) (decide (l = m)):=by
 by_cases hlen : l.length = m.length
 ·have main : ∀ d i : Nat,i + d = l.length → l.take i = m.take i → Ev (fun k=>freshetref03_Same.l0 k l m (i : Int)) (decide (l = m)):=by
   intro d
   induction d with
   | zero =>
    intro i hi ht
    have he : l = m:=by
     rw [List.take_of_length_le (by omega),List.take_of_length_le (by omega)] at ht;exact ht
    rw [decide_eq_true he]
    refine Ev.step (f:=fun _=>some true) (fun k=>?_) (Ev.now _)
    simp only [freshetref03_Same.l0]
    rw [if_neg (by omega)]
   | succ d ih =>
    intro i hi ht
    have h1 : i < l.length:=by omega
    have h2 : i < m.length:=by omega
    have hll:=hl.1
    by_cases hw : l[i].f1 = m[i].f1
    ·have hs:=same_ev l[i].f0 m[i].f0 (hl.2 _ (List.getElem_mem h1))
     by_cases hx : l[i].f0 = m[i].f0
     ·rw [decide_eq_true hx] at hs
      have hxx : l[i] = m[i]:=by
       cases hA : l[i];cases hB : m[i];rw [hA,hB] at hw hx;simp at hw hx;rw [hw,hx]
      refine Ev.step (f:=fun k=>(freshetref02_Same.f k l[i].f0 m[i].f0).bind fun t=>if t = true then freshetref03_Same.l0 k l m ((i + 1 : Nat) : Int) else some false) (fun k=>?_) (Ev.bind hs ?_)
      ·simp only [freshetref03_Same.l0]
       rw [if_pos (by omega),if_pos (by omega),if_pos (by omega),rd_atE l i h1,rd_atE m i h2,if_pos hw,w64k (by omega) (by omega)]
       rfl
      ·simp only [if_true]
       exact ih (i + 1) (by omega) (by rw [List.take_succ_eq_append_getElem h1,List.take_succ_eq_append_getElem h2,ht,hxx])
     ·rw [decide_eq_false hx] at hs
      have hne : l ≠ m:=by rintro rfl;exact hx rfl
      rw [decide_eq_false hne]
      refine Ev.step (f:=fun k=>(freshetref02_Same.f k l[i].f0 m[i].f0).bind fun t=>if t = true then freshetref03_Same.l0 k l m ((i + 1 : Nat) : Int) else some false) (fun k=>?_) (Ev.bind hs ?_)
      ·simp only [freshetref03_Same.l0]
       rw [if_pos (by omega),if_pos (by omega),if_pos (by omega),rd_atE l i h1,rd_atE m i h2,if_pos hw,w64k (by omega) (by omega)]
       rfl
      ·simp only [Bool.false_eq_true,if_false]
       exact Ev.now _
    ·have hne : l ≠ m:=by rintro rfl;exact hw rfl
     rw [decide_eq_false hne]
     refine Ev.step (f:=fun _=>some false) (fun k=>?_) (Ev.now _)
     simp only [freshetref03_Same.l0]
     rw [if_pos (by omega),if_pos (by omega),if_pos (by omega),rd_atE l i h1,rd_atE m i h2,if_neg hw]
  have:=main l.length 0 (by omega) (by simp)
  refine Ev.congr (fun k=>?_) this
  simp only [freshetref03_Same.f]
  rw [if_pos (by omega)];rfl
 ·have hne : l ≠ m:=by rintro rfl;exact hlen rfl
  rw [decide_eq_false hne]
  refine Ev.congr (f:=fun _=>some false) (fun k=>?_) (Ev.now _)
  simp only [freshetref03_Same.f]
  rw [if_neg (by omega)]
theorem isFair_f (a : Int) : zset_isFair.f a = some (fair a):=by
 unfold zset_isFair.f fair
 split
 ·rename_i h;rw [decide_eq_true h];rfl
 ·rename_i h;rw [decide_eq_false h];rfl
/-- what Sound asks at a place -/
def gdE (l : List S48) (i : Nat) : Bool :=
 let x:=rd_T48 l i
 !(x.f1 == 0) && (okE x && (i == 0 || decide (cmpLS (rd_T48 l ((i - 1 : Nat) : Int)).f0 x.f0 < 0)))
/-- whether a list is a multiset -/
def soundZ (l : List S48) : Bool:=(List.range' 0 l.length).all (gdE l)
theorem zsound_ev (l : List S48) (hr : ∀ x ∈ l,rngL x.f0 = true) (hl : l.length ≤ 1000000) : Ev (fun k=>zset_Sound.f k l) (soundZ l):=by
 have main : ∀ d i : Nat,i + d = l.length → Ev (fun k=>zset_Sound.l0 k l l (l.length : Int) (i : Int)) ((List.range' i d).all (gdE l)):=by
  intro d
  induction d with
  | zero =>
   intro i hi
   refine Ev.step (f:=fun _=>some true) (fun k=>?_) (Ev.now _)
   simp only [zset_Sound.l0]
   rw [if_neg (by omega)]
  | succ d ih =>
   intro i hi
   have h1 : i < l.length:=by omega
   have hrd:=rd_atE l i h1
   have hx:=hr _ (List.getElem_mem h1)
   rw [← hrd] at hx
   rw [List.range'_succ,List.all_cons]
   have gen : ∀ b : Bool,gdE l i = b → (b = true → Ev (fun k=>zset_Sound.l0 k l l (l.length : Int) ((i + 1 : Nat) : Int)) ((List.range' (i + 1) d).all (gdE l))) → Ev (fun k=>zset_Sound.l0 k l l (l.length : Int) (i : Int)) (b && (List.range' (i + 1) d).all (gdE l)):=by
    intro b hb hnext
    by_cases hw : (rd_T48 l (i : Int)).f1 = 0
    ·have : b = false:=by rw [← hb];unfold gdE;simp [hw]
     rw [this]
     refine Ev.step (f:=fun _=>some false) (fun k=>?_) (Ev.now _)
     simp only [zset_Sound.l0]
     rw [if_pos (by omega),if_pos (by omega),if_pos (by omega),if_pos hw]
    ·cases hf : fair (rd_T48 l (i : Int)).f1
     ·have : b = false:=by rw [← hb];unfold gdE okE;simp [hf]
      rw [this]
      refine Ev.step (f:=fun _=>some false) (fun k=>?_) (Ev.now _)
      simp only [zset_Sound.l0]
      rw [if_pos (by omega),if_pos (by omega),if_pos (by omega),if_neg hw,isFair_f,hf]
      rfl
     ·cases hs : soundL (rd_T48 l (i : Int)).f0
      ·have : b = false:=by rw [← hb];unfold gdE okE;simp [hs]
       rw [this]
       refine Ev.step (f:=fun _=>some false) (fun k=>?_) (Ev.now _)
       simp only [zset_Sound.l0]
       rw [if_pos (by omega),if_pos (by omega),if_pos (by omega),if_neg hw,isFair_f,hf]
       unfold xRowSound.f
       rw [if_pos hx,hs]
       rfl
      ·rcases Nat.eq_zero_or_pos i with h0 | h0
       ·have hbt : b = true:=by rw [← hb];unfold gdE okE;simp [hw,hf,hs,h0];rw [h0] at hw hf hs;simpa using ⟨hw,hf,hs⟩
        rw [hbt,Bool.true_and]
        refine Ev.step (fun k=>?_) (hnext hbt)
        simp only [zset_Sound.l0]
        rw [if_pos (by omega),if_pos (by omega),if_pos (by omega),if_neg hw,isFair_f,hf]
        unfold xRowSound.f
        rw [if_pos hx,hs]
        simp only [Option.bind_some,if_true]
        rw [if_neg (by omega),w64k (by omega) (by omega)]
        rfl
       ·have hi1 : i - 1 < l.length:=by omega
        have hp:=hr _ (List.getElem_mem hi1)
        rw [← rd_atE l (i - 1) hi1] at hp
        have hz : (i == 0) = false:=by simp;omega
        by_cases hc : cmpLS (rd_T48 l ((i - 1 : Nat) : Int)).f0 (rd_T48 l (i : Int)).f0 < 0
        ·have hbt : b = true:=by
          rw [← hb];unfold gdE okE
          simp only [hz,hs,hf,decide_eq_true hc,Bool.and_true,Bool.or_true,Bool.true_and,Bool.false_or]
          simpa using hw
         rw [hbt,Bool.true_and]
         refine Ev.step (fun k=>?_) (hnext hbt)
         simp only [zset_Sound.l0]
         rw [if_pos (by omega),if_pos (by omega),if_pos (by omega),if_neg hw,isFair_f,hf]
         unfold xRowSound.f
         rw [if_pos hx,hs]
         simp only [Option.bind_some,if_true]
         rw [if_pos (by omega),w64k (n:=(i : Int) - 1) (by omega) (by omega),show (i : Int) - 1 = ((i - 1 : Nat) : Int) by omega,if_pos (by omega),if_pos (by omega)]
         unfold zset_byRow.f xRowCompare.f
         rw [if_pos ⟨hp,hx⟩]
         simp only [Option.bind_some]
         rw [if_neg (by omega),w64k (by omega) (by omega)]
         rfl
        ·have hbt : b = false:=by
          rw [← hb];unfold gdE
          simp only [hz,decide_eq_false hc,Bool.or_false,Bool.and_false]
         rw [hbt]
         refine Ev.step (f:=fun _=>some false) (fun k=>?_) (Ev.now _)
         simp only [zset_Sound.l0]
         rw [if_pos (by omega),if_pos (by omega),if_pos (by omega),if_neg hw,isFair_f,hf]
         unfold xRowSound.f
         rw [if_pos hx,hs]
         simp only [Option.bind_some,if_true]
         rw [if_pos (by omega),w64k (n:=(i : Int) - 1) (by omega) (by omega),show (i : Int) - 1 = ((i - 1 : Nat) : Int) by omega,if_pos (by omega),if_pos (by omega)]
         unfold zset_byRow.f xRowCompare.f
         rw [if_pos ⟨hp,hx⟩]
         simp only [Option.bind_some]
         rw [if_pos (by omega)]
   exact gen _ rfl fun _=>ih (i + 1) (by omega)
 exact Ev.congr (fun k=>rfl) (main l.length 0 (by omega))
theorem zSound_c (A0 : Option Addr) (c0 : Nat) (l : List S48) (w : World) (hr0 : Kd.C k48 w A0 l.length l) (hc0 : l.length ≤ c0) (hr : ∀ x ∈ l,rngL x.f0 = true) (hl : l.length ≤ 1000000) :
  Calls Tryz.prog 12 #[.slice A0 l.length c0] w fun e w'=>e = .returned (.bool (soundZ l)) ∧ Below w.heap.size w w':=by
 obtain ⟨k,hk⟩:=zsound_ev l hr hl
 exact zset_Sound.calls _ A0 c0 l _ w hr0 hc0 (hk _ (Nat.le_refl _))
/-- a multiset: rows in order, each once, with fair weights -/
theorem soundZ_iff (l : List S48) (hr : ∀ x ∈ l,rngL x.f0 = true) : soundZ l = true ↔ (∀ x ∈ l,x.f1 ≠ 0 ∧ okE x = true) ∧ Zst cT (l.map prE):=by
 unfold soundZ
 rw [List.all_eq_true]
 have hok : ∀ x ∈ l,okE x = true → okR x.f0 = true:=fun x hx h=>okR_iff.2 ⟨by unfold okE at h;simp at h;exact h.2,hr x hx⟩
 constructor
 ·intro h
  have g : ∀ i (hi : i < l.length),l[i].f1 ≠ 0 ∧ okE l[i] = true ∧ (0 < i → cmpLS (rd_T48 l ((i - 1 : Nat) : Int)).f0 l[i].f0 < 0):=fun i hi=>by
   have:=h i (by simp;omega)
   unfold gdE at this
   simp only [rd_atE l i hi,Bool.and_eq_true,Bool.or_eq_true,Bool.not_eq_true',beq_eq_false_iff_ne,decide_eq_true_eq,beq_iff_eq] at this
   exact ⟨this.1,this.2.1,fun h0=>this.2.2.resolve_left (by omega)⟩
  refine ⟨fun x hx=>?_, ?_⟩
  ·obtain ⟨i,hi,rfl⟩:=List.mem_iff_getElem.1 hx
   exact ⟨(g i hi).1,(g i hi).2.1⟩
  ·have k : ∀ i (hi : i < l.length),okR l[i].f0 = true:=fun i hi=>hok _ (List.getElem_mem hi) (g i hi).2.1
   have step : ∀ i (hi : i + 1 < l.length),cT l[i].f0 l[i + 1].f0 < 0:=fun i hi=>by
    have:=(g (i + 1) hi).2.2 (by omega)
    rw [show i + 1 - 1 = i by omega,rd_atE l i (by omega),cT_ls (k i (by omega)) (k (i + 1) hi)] at this
    exact this
   rw [Zst,List.pairwise_map,List.pairwise_iff_getElem]
   intro i j hi hj hij
   show cT l[i].f0 l[j].f0 < 0
   obtain ⟨d,rfl⟩ : ∃ d,j = i + 1 + d:=⟨j - i - 1,by omega⟩
   clear hij
   induction d with
   | zero=>exact step i hj
   | succ d ih =>
    have h1:=ih (by omega)
    exact cT_ord.lt_tr h1 (by have:=step (i + 1 + d) hj;show cT l[i + 1 + d].f0 l[i + 1 + (d + 1)].f0 ≤ 0;exact Int.le_of_lt this)
 ·rintro ⟨h1,h2⟩ i hi
  have hi : i < l.length:=by simpa using hi
  unfold gdE
  simp only [rd_atE l i hi]
  obtain ⟨a1,a2⟩:=h1 _ (List.getElem_mem hi)
  simp only [Bool.and_eq_true,Bool.or_eq_true,Bool.not_eq_true',beq_eq_false_iff_ne,decide_eq_true_eq,beq_iff_eq]
  refine ⟨a1,a2, ?_⟩
  rcases Nat.eq_zero_or_pos i with h0 | h0
  ·exact .inl h0
  ·right
   have hi1 : i - 1 < l.length:=by omega
   rw [rd_atE l (i - 1) hi1,cT_ls (hok _ (List.getElem_mem hi1) (h1 _ (List.getElem_mem hi1)).2) (hok _ (List.getElem_mem hi) a2)]
   rw [Zst,List.pairwise_map,List.pairwise_iff_getElem] at h2
   exact h2 (i - 1) i hi1 hi (by omega)
end Go.Proofs.YthpkjkcfhipjhaaGreatDoor
end
section
namespace Go.Proofs.YthpkjkcfhipjhaaGreatDoor
set_option linter.unusedVariables false
set_option linter.unusedSimpArgs false
open Go.RowKit Go.Proofs.YthpkjkcfhipjhaaGreatDoorW.PrintWords Go.Proofs.YthpkjkcfhipjhaaGreatDoorW.PrintLast PRW PZA
section
variable {α : Type} {cf : α → α → Int}
theorem has_app (a b : List (α × Int)) (r : α) : has cf (a ++ b) r = (has cf a r || has cf b r):=by simp [has]
theorem zst_new {a b : List (α × Int)} {x : α × Int} (h : Zst cf (a ++ b)) (h1 : ∀ y ∈ a,cf y.1 x.1 < 0) (h2 : ∀ y ∈ b,cf x.1 y.1 < 0) : Zst cf (a ++ x :: b):=by
 rw [Zst,List.pairwise_append] at h ⊢
 obtain ⟨p1,p2,p3⟩:=h
 refine ⟨p1,List.pairwise_cons.2 ⟨h2,p2⟩,fun y hy z hz=>?_⟩
 rcases List.mem_cons.1 hz with rfl | hz
 ·exact h1 y hy
 ·exact p3 y hy z hz
theorem zst_more {a b : List (α × Int)} {y : α × Int} {s : Int} (h : Zst cf (a ++ y :: b)) : Zst cf (a ++ (y.1,s) :: b):=by
 rw [Zst,List.pairwise_append,List.pairwise_cons] at h ⊢
 obtain ⟨p1,⟨p2,p2'⟩,p3⟩:=h
 refine ⟨p1,⟨fun z hz=>p2 z hz,p2'⟩,fun u hu z hz=>?_⟩
 rcases List.mem_cons.1 hz with rfl | hz
 ·exact p3 u hu y (List.mem_cons_self ..)
 ·exact p3 u hu z (List.mem_cons_of_mem _ hz)
theorem has_mid (a b : List (α × Int)) (x : α × Int) (r : α) : has cf (a ++ x :: b) r = has cf ((a ++ b) ++ [x]) r:=by
 rw [has_app,has_app,has_app,has_cons,has_cons]
 show (_ || (eqR cf r x.1 || _)) = ((_ || _) || (eqR cf r x.1 || false))
 cases has cf a r <;> cases has cf b r <;> cases eqR cf r x.1 <;> rfl
theorem wt_mid (a b : List (α × Int)) (x : α × Int) (r : α) : wt cf (a ++ x :: b) r = wt cf ((a ++ b) ++ [x]) r:=by
 rw [wt_app,wt_app,wt_app,wt_cons,wt_cons,wt_nil];omega
theorem has_more (O : OrdC cf) (a b : List (α × Int)) (y x : α × Int) (s : Int) (e : cf y.1 x.1 = 0) (r : α) : has cf (a ++ (y.1,s) :: b) r = has cf ((a ++ y :: b) ++ [x]) r:=by
 rw [has_app,has_app,has_app,has_cons,has_cons,has_cons]
 show (_ || (eqR cf r y.1 || _)) = ((_ || (eqR cf r y.1 || _)) || (eqR cf r x.1 || false))
 rw [eqR_cong' O (O.eq_symm e) r]
 cases has cf a r <;> cases has cf b r <;> cases eqR cf r y.1 <;> rfl
theorem wt_more (O : OrdC cf) (a b : List (α × Int)) (y x : α × Int) (e : cf y.1 x.1 = 0) (r : α) : wt cf (a ++ (y.1,y.2 + x.2) :: b) r = wt cf ((a ++ y :: b) ++ [x]) r:=by
 rw [wt_app,wt_app,wt_app,wt_cons,wt_cons,wt_cons,wt_nil]
 show _ + ((if eqR cf r y.1 then y.2 + x.2 else 0) + _) = _
 rw [eqR_cong' O (O.eq_symm e) r]
 split <;> omega
end
/-- a total as it lies: its row's address and room, and what it means in the world w0 -/
structure Tot (w0 : World) where
 A : Option Addr
 c : Nat
 x : List S64
 hi : Int
 lo : Int
 le : x.length ≤ c
 lies : Kd.C k64 w0 A x.length x
 rng : rngL x = true
 snd : soundL x = true
instance (w0 : World) : Inhabited (Tot w0):=⟨⟨none,0,[],0,0,Nat.le_refl _,nil_C w0,rfl,rfl⟩⟩
section
variable {w0 : World}
def Tot.sum (t : Tot w0) : Int:=t.hi * 2147483648 + t.lo
def Tot.pr (t : Tot w0) : List S64 × Int:=(t.x,t.sum)
theorem Tot.ok (t : Tot w0) : okR t.x = true:=okR_iff.2 ⟨t.snd,t.rng⟩
/-- the totals T of the entries l -/
structure Acc (l : List S48) (T : List (Tot w0)) : Prop where
 zst : Zst cT (T.map Tot.pr)
 has : ∀ r,has cT (T.map Tot.pr) r = has cT (l.map prE) r
 wt : ∀ r,wt cT (T.map Tot.pr) r = wt cT (l.map prE) r
 len : T.length ≤ l.length
 bnd : ∀ t ∈ T, -((l.length : Int) * 2147483648) ≤ t.hi ∧ t.hi ≤ (l.length : Int) * 2147483648 ∧ 0 ≤ t.lo ∧ t.lo ≤ (l.length : Int) * 2147483648
theorem Acc.start : Acc (w0:=w0) [] []:=⟨List.Pairwise.nil,fun _=>rfl,fun _=>rfl,Nat.le_refl _,fun t h=>by cases h⟩
theorem Acc.sums {l : List S48} {T : List (Tot w0)} (h : Acc l T) (hok : ∀ x ∈ l,okR x.f0 = true) : T.map Tot.pr = sums cT (l.map prE):=by
 refine zst_ext cT_ord okR cT_same _ _ h.zst (sums_zst cT_ord _) (fun x hx=>?_) (fun x hx=>?_) (fun r=>?_) (fun r=>?_)
 ·obtain ⟨t,_,rfl⟩:=List.mem_map.1 hx;exact t.ok
 ·obtain ⟨y,hy,e⟩:=sums_rows cT_ord _ x hx
  obtain ⟨z,hz,rfl⟩:=List.mem_map.1 hy
  rw [e];exact hok z hz
 ·rw [h.has,sums_has cT_ord]
 ·rw [h.wt,sums_wt cT_ord]
/-- the two parts of a weight -/
def hiW (w : Int) : Int:=w / 2147483648
def loW (w : Int) : Int:=w % 2147483648
theorem parts_W (w : Int) : hiW w * 2147483648 + loW w = w:=by unfold hiW loW;omega
theorem hiW_b {w : Int} (h : fair w = true) : -2147483648 ≤ hiW w ∧ hiW w ≤ 2147483648 ∧ 0 ≤ loW w ∧ loW w < 2147483648:=by
 have:=fair_iff.1 h
 unfold hiW loW;omega
theorem Acc.more {l : List S48} {T : List (Tot w0)} (h : Acc l T) (x : S48) (hf : fair x.f1 = true) (k : Nat) (t : Tot w0) (ht : T[k]? = some t) (he : cT t.x x.f0 = 0) :
  Acc (l ++ [x]) (T.set k { t with hi:=t.hi + hiW x.f1,lo:=t.lo + loW x.f1 }):=by
 obtain ⟨hk,e⟩:=List.getElem?_eq_some_iff.1 ht
 have eT : T = T.take k ++ t :: T.drop (k + 1):=by rw [← e,← List.drop_eq_getElem_cons hk,List.take_append_drop]
 have eS : T.set k { t with hi:=t.hi + hiW x.f1,lo:=t.lo + loW x.f1 } = T.take k ++ { t with hi:=t.hi + hiW x.f1,lo:=t.lo + loW x.f1 } :: T.drop (k + 1):=by rw [List.set_eq_take_append_cons_drop,if_pos hk]
 have ep : Tot.pr { t with hi:=t.hi + hiW x.f1,lo:=t.lo + loW x.f1 } = (t.pr.1,t.pr.2 + (prE x).2):=by
  show (t.x,(t.hi + hiW x.f1) * 2147483648 + (t.lo + loW x.f1)) = (t.x,(t.hi * 2147483648 + t.lo) + x.f1)
  have:=parts_W x.f1
  congr 1
  omega
 obtain ⟨b1,b2,b3,b4⟩:=hiW_b hf
 have hl : ((l ++ [x]).length : Int) = l.length + 1:=by simp
 have hz:=h.zst
 rw [eT,List.map_append,List.map_cons] at hz
 refine ⟨?_,fun r=>?_,fun r=>?_, ?_, ?_⟩
 ·rw [eS,List.map_append,List.map_cons,ep]
  exact zst_more hz
 ·rw [eS,List.map_append,List.map_cons,ep,has_more cT_ord _ _ t.pr (prE x) _ he,List.map_append (l₁:=l),List.map_singleton,has_app,has_app (l.map prE),← h.has r]
  congr 1
  conv=>rhs;rw [eT,List.map_append,List.map_cons]
 ·rw [eS,List.map_append,List.map_cons,ep,wt_more cT_ord _ _ t.pr (prE x) he,List.map_append (l₁:=l),List.map_singleton,wt_app,wt_app cT (l.map prE),← h.wt r]
  congr 1
  conv=>rhs;rw [eT,List.map_append,List.map_cons]
 ·rw [List.length_set,List.length_append];have:=h.len;simp;omega
 ·intro u hu
  rw [hl]
  rcases List.mem_or_eq_of_mem_set hu with hu | rfl
  ·have:=h.bnd u hu;omega
  ·have:=h.bnd t (List.mem_of_getElem? ht)
   show _ ≤ t.hi + hiW x.f1 ∧ t.hi + hiW x.f1 ≤ _ ∧ 0 ≤ t.lo + loW x.f1 ∧ t.lo + loW x.f1 ≤ _
   omega
theorem Acc.new {l : List S48} {T : List (Tot w0)} (h : Acc l T) (x : S48) (hf : fair x.f1 = true) (k : Nat) (hk : k ≤ T.length) (t : Tot w0) (e0 : t.x = x.f0) (e1 : t.hi = hiW x.f1) (e2 : t.lo = loW x.f1)
  (h1 : ∀ u ∈ T.take k,cT u.x x.f0 < 0) (h2 : ∀ u ∈ T.drop k,cT x.f0 u.x < 0) : Acc (l ++ [x]) (T.take k ++ t :: T.drop k):=by
 have ep : t.pr = prE x:=by
  show (t.x,t.hi * 2147483648 + t.lo) = (x.f0,x.f1)
  rw [e0,e1,e2,parts_W]
 obtain ⟨b1,b2,b3,b4⟩:=hiW_b hf
 have hl : ((l ++ [x]).length : Int) = l.length + 1:=by simp
 have eT : T.map Tot.pr = (T.take k).map Tot.pr ++ (T.drop k).map Tot.pr:=by rw [← List.map_append,List.take_append_drop]
 refine ⟨?_,fun r=>?_,fun r=>?_, ?_, ?_⟩
 ·rw [List.map_append,List.map_cons,ep]
  refine zst_new (by rw [← eT];exact h.zst) (fun y hy=>?_) (fun y hy=>?_)
  ·obtain ⟨u,hu,rfl⟩:=List.mem_map.1 hy;exact h1 u hu
  ·obtain ⟨u,hu,rfl⟩:=List.mem_map.1 hy;exact h2 u hu
 ·rw [List.map_append,List.map_cons,ep,has_mid,← eT,has_app,h.has,List.map_append,List.map_singleton,has_app]
 ·rw [List.map_append,List.map_cons,ep,wt_mid,← eT,wt_app,h.wt,List.map_append,List.map_singleton,wt_app]
 ·have:=h.len;simp;omega
 ·intro u hu
  rw [hl]
  rcases List.mem_append.1 hu with hu | hu
  ·have:=h.bnd u (List.mem_of_mem_take hu);omega
  ·rcases List.mem_cons.1 hu with rfl | hu
   ·rw [e1,e2];omega
   ·have:=h.bnd u (List.mem_of_mem_drop hu);omega
end
end Go.Proofs.YthpkjkcfhipjhaaGreatDoor
end
section
namespace Go.Proofs.YthpkjkcfhipjhaaGreatDoor
set_option linter.unusedVariables false
set_option linter.unusedSimpArgs false
open Go.RowKit Go.Proofs.YthpkjkcfhipjhaaGreatDoorW.PrintWords Go.Proofs.YthpkjkcfhipjhaaGreatDoorW.PrintLast PRW PZA
section
variable (P : Program)
theorem run_copy_rowK (w : World) (dT sT ty elem k : Nat) (g o dLen dCap : Nat) (a : Addr) (sLen sCap : Nat) (cur : Array Value) (t : TypeId) (cs : List Value) (m : Nat)
  (hu : P.underlying dT = some (.slice elem)) (hs : (P.info? elem).map (·.size) = some k)
  (hg : w.heap[g]? = some (.cells cur t (0,0))) (hm : Nat.min sLen dLen = m) (hn : cs.length = m * k)
  (hsrc : ∀ j v,cs[j]? = some v → w.cell? (a.add j) = some v) (hfit : o + cs.length ≤ cur.size) (h1 : ∀ v ∈ cs,v.oneCell' = true) :
  (Builtin.copy_ #[dT,sT] ty #[.slice (some ⟨g,o,none⟩) dLen dCap,.slice (some a) sLen sCap]).run P w =
   .ok (goInt m) (w.setRow g (cur.toList.take o ++ cs ++ cur.toList.drop (o + cs.length)).toArray):=by
 have hl:=run_loadCells_list (P:=P) w a cs hsrc
 have hst:=run_storeCells_at P g o t cs 0 cur w hg (by simpa using hfit) h1
 rw [hn] at hl
 cases hq : P.info? elem with
 | none=>simp [hq] at hs
 | some i =>
  have hi : i.size = k:=by simpa [hq] using hs
  simp [Builtin.copy_,run_underlying hu,Builtin.lenOf,Builtin.firstCells,sizeOf,typeInfo,hq,hi,hm,hl,hst]
theorem run_copy_noneK (w : World) (dT sT ty elem k : Nat) (d a : Option Addr) (dLen dCap sLen sCap : Nat) (hu : P.underlying dT = some (.slice elem)) (hs : (P.info? elem).map (·.size) = some k) (hn : Nat.min sLen dLen = 0) :
  (Builtin.copy_ #[dT,sT] ty #[.slice d dLen dCap,.slice a sLen sCap]).run P w = .ok (goInt 0) w:=by
 cases hq : P.info? elem with
 | none=>simp [hq] at hs
 | some i =>
  have hl : ∀ (x : Addr),(loadCells x 0).run P w = .ok #[] w:=fun x=>by simpa using run_loadCells_list (P:=P) w x [] (by simp)
  cases d <;> cases a <;> simp [Builtin.copy_,run_underlying hu,Builtin.lenOf,Builtin.firstCells,sizeOf,typeInfo,hq,hn,storeCells,hl]
end
section
variable {w0 : World}
def Tot.enc (t : Tot w0) : List Value:=[.slice t.A t.x.length t.c,.int .i64 t.hi,.int .i64 t.lo]
def flatT (ts : List (Tot w0)) : List Value:=ts.flatMap Tot.enc
def gt (ts : List (Tot w0)) (i : Nat) : Tot w0:=ts.getD i default
theorem gt_at (ts : List (Tot w0)) (i : Nat) (h : i < ts.length) : gt ts i = ts[i]:=by unfold gt;rw [List.getD_eq_getElem?_getD,List.getElem?_eq_getElem h];rfl
theorem flatT_cons (t : Tot w0) (ts : List (Tot w0)) : flatT (t :: ts) = .slice t.A t.x.length t.c :: .int .i64 t.hi :: .int .i64 t.lo :: flatT ts:=rfl
theorem flatT_app (a b : List (Tot w0)) : flatT (a ++ b) = flatT a ++ flatT b:=List.flatMap_append
theorem flatT_len : ∀ ts : List (Tot w0),(flatT ts).length = ts.length * 3
 | []=>rfl
 | e :: xs=>by rw [flatT_cons,List.length_cons,List.length_cons,List.length_cons,flatT_len xs,List.length_cons];omega
theorem flatT_get : ∀ (ts : List (Tot w0)) (i j : Nat),i < ts.length → j < 3 → (flatT ts)[i * 3 + j]? = (gt ts i).enc[j]?
 | [],i,_,h,_=>absurd h (Nat.not_lt_zero _)
 | e :: xs,0,0,_,_=>rfl
 | e :: xs,0,1,_,_=>rfl
 | e :: xs,0,2,_,_=>rfl
 | e :: xs,i + 1,j,h,hj=>by
  have:=flatT_get xs i j (by simpa using h) hj
  rw [flatT_cons,show (i + 1) * 3 + j = i * 3 + j + 1 + 1 + 1 by omega,List.getElem?_cons_succ,List.getElem?_cons_succ,List.getElem?_cons_succ,this];rfl
theorem flatT_set : ∀ (ts : List (Tot w0)) (i : Nat) (t : Tot w0),(((flatT ts).set (i * 3) (.slice t.A t.x.length t.c)).set (i * 3 + 1) (.int .i64 t.hi)).set (i * 3 + 2) (.int .i64 t.lo) = flatT (ts.set i t)
 | [],i,e=>rfl
 | a :: xs,0,e=>rfl
 | a :: xs,i + 1,e=>by
  have:=flatT_set xs i e
  rw [flatT_cons,show (i + 1) * 3 = i * 3 + 1 + 1 + 1 by omega]
  repeat rw [List.set_cons_succ]
  rw [this,flatT_cons]
theorem flatT_one (ts : List (Tot w0)) : ∀ v ∈ flatT ts,v.oneCell' = true:=fun v hv=>by
 obtain ⟨t,_,h⟩:=List.mem_flatMap.1 hv
 simp only [Tot.enc,List.mem_cons,List.not_mem_nil,or_false] at h
 rcases h with rfl | rfl | rfl <;> rfl
/-- block g of the world W holds the totals ts, with room for cap of them -/
structure TG (w0 : World) (g cap : Nat) (ts : List (Tot w0)) (W : World) : Prop where
 bel : Below w0.heap.size w0 W
 new : w0.heap.size ≤ g
 le : ts.length ≤ cap
 lim : cap ≤ maxLen
 blk : ∃ rest : List Value,W.heap[g]? = some (.cells (flatT ts ++ rest).toArray 68 (0,0)) ∧ (flatT ts ++ rest).length = cap * 3
section
variable {g cap : Nat} {ts : List (Tot w0)} {W W' : World}
theorem TG.lt (h : TG w0 g cap ts W) : g < W.heap.size:=h.blk.elim fun _ k=>heap_lt k.1
theorem TG.below (h : TG w0 g cap ts W) (k : Below W.heap.size W W') : TG w0 g cap ts W' :=
 ⟨h.bel.trans (k.mono h.bel.size),h.new,h.le,h.lim,h.blk.elim fun r e=>⟨r,(k.block g h.lt).trans e.1,e.2⟩⟩
theorem TG.drew (h : TG w0 g cap ts W) : TG w0 g cap ts W.drew:=h.below (Below.refl _ _).drew
theorem TG.cell (h : TG w0 g cap ts W) (i j : Nat) (hi : i < ts.length) (hj : j < 3) : W.cell? ⟨g,i * 3 + j,none⟩ = (gt ts i).enc[j]?:=by
 have e:=flatT_get ts i j hi hj
 have hl:=flatT_len ts
 obtain ⟨r,k,_⟩:=h.blk
 simp only [World.cell?,k,List.getElem?_toArray]
 rw [List.getElem?_append_left (by omega),e];rfl
theorem TG.c0 (h : TG w0 g cap ts W) (i : Nat) (hi : i < ts.length) : W.cell? ⟨g,i * 3,none⟩ = some (.slice (gt ts i).A (gt ts i).x.length (gt ts i).c):=h.cell i 0 hi (by omega)
theorem TG.c1 (h : TG w0 g cap ts W) (i : Nat) (hi : i < ts.length) : W.cell? ⟨g,i * 3 + 1,none⟩ = some (.int .i64 (gt ts i).hi):=h.cell i 1 hi (by omega)
theorem TG.c2 (h : TG w0 g cap ts W) (i : Nat) (hi : i < ts.length) : W.cell? ⟨g,i * 3 + 2,none⟩ = some (.int .i64 (gt ts i).lo):=h.cell i 2 hi (by omega)
theorem TG.fr (h : TG w0 g cap ts W) (o : Nat) : W.frozen? ⟨g,o,none⟩ = false:=by
 obtain ⟨r,k,_⟩:=h.blk
 simp [World.frozen?,k]
/-- the stores of one total -/
def putW (W : World) (g o : Nat) (t : Tot w0) : World :=
 ((W.setCell ⟨g,o,none⟩ (.slice t.A t.x.length t.c)).setCell ⟨g,o + 1,none⟩ (.int .i64 t.hi)).setCell ⟨g,o + 2,none⟩ (.int .i64 t.lo)
theorem TG.put (h : TG w0 g cap ts W) (i : Nat) (hi : i < ts.length) (t : Tot w0) : TG w0 g cap (ts.set i t) (putW W g (i * 3) t):=by
 obtain ⟨r,hblk,hlen⟩:=h.blk
 have hl:=flatT_len ts
 refine ⟨((h.bel.setCell h.new _).setCell h.new _).setCell h.new _,h.new,by rw [List.length_set];exact h.le,h.lim,r, ?_, ?_⟩
 ·unfold putW
  have h1:=heap_setCell_same W g (i * 3) _ _ (.slice t.A t.x.length t.c) hblk
  have h2:=heap_setCell_same _ g (i * 3 + 1) _ _ (.int .i64 t.hi) h1
  have h3:=heap_setCell_same _ g (i * 3 + 2) _ _ (.int .i64 t.lo) h2
  rw [h3,← flatT_set ts i t]
  simp only [List.setIfInBounds_toArray]
  rw [List.set_append_left _ _ (by omega),List.set_append_left _ _ (by rw [List.length_set];omega),List.set_append_left _ _ (by rw [List.length_set,List.length_set];omega)]
 ·rw [List.length_append,flatT_len,List.length_set,← hlen,List.length_append,flatT_len]
/-- the totals behind a copy from place k one place up -/
theorem TG.shift (h : TG w0 g cap ts W) (k : Nat) (T : List (Tot w0)) (z : Tot w0) (hT : ts = T ++ [z]) (hk : k ≤ T.length) (ty : Nat) (A : Option Addr) (c1 c2 : Nat) (hA : k < T.length → A = some ⟨g,(k + 1) * 3,none⟩) :
  ∃ W',(Builtin.copy_ #[65,65] ty #[.slice A (T.length - k) c1,.slice (some ⟨g,k * 3,none⟩) (T.length + 1 - k) c2]).run Tryz.prog W = .ok (goInt ((T.length - k : Nat) : Int)) W' ∧ TG w0 g cap (T.take k ++ gt ts k :: T.drop k) W' ∧ ∀ q,q ≠ g → W'.heap[q]? = W.heap[q]?:=by
 have hinfo : (Tryz.prog.info? 68).map (·.size) = some 3:=by kernel_rfl
 have hmin : Nat.min (T.length + 1 - k) (T.length - k) = T.length - k:=Nat.min_eq_right (by omega)
 by_cases h0 : k < T.length
 ·rw [hA h0]
  obtain ⟨r,hblk,hlen⟩:=h.blk
  have hts : ts.length = T.length + 1:=by rw [hT];simp
  have hl:=flatT_len ts
  have hfl : (flatT (T.drop k)).length = (T.length - k) * 3:=by rw [flatT_len,List.length_drop]
  have hfk : (flatT (T.take k)).length = k * 3:=by rw [flatT_len,List.length_take,Nat.min_eq_left hk]
  have key : flatT ts = flatT (T.take k) ++ (flatT (T.drop k) ++ z.enc):=by
   have e1:=flatT_app (T.take k) (T.drop k)
   rw [List.take_append_drop] at e1
   rw [hT,flatT_app,e1,List.append_assoc]
   rfl
  refine ⟨_,run_copy_rowK Tryz.prog W _ _ ty 68 3 g ((k + 1) * 3) _ c1 ⟨g,k * 3,none⟩ _ c2 _ 68 (flatT (T.drop k)) (T.length - k) Tryz.underlying65 hinfo hblk hmin (by rw [hfl]) (fun j v hv=>?_) ?_ (flatT_one _), ?_⟩
  ·have ha : ((⟨g,k * 3,none⟩ : Addr).add j) = ⟨g,k * 3 + j,none⟩:=by unfold Addr.add;split <;> simp_all
   have hj : j < (T.length - k) * 3:=by rw [← hfl];exact (List.getElem?_eq_some_iff.1 hv).1
   rw [ha]
   simp only [World.cell?,hblk,List.getElem?_toArray]
   rw [List.getElem?_append_left (by omega),key,List.getElem?_append_right (by omega),hfk,show k * 3 + j - k * 3 = j by omega,List.getElem?_append_left (by omega)]
   exact hv
  ·rw [hfl,List.size_toArray,List.length_append];omega
  ·have hd : ((gt ts k).enc ++ flatT (T.drop k)).length = (T.length - k) * 3 + 3:=by rw [List.length_append,hfl];show 3 + _ = _;omega
   have htk : flatT ts = flatT (T.take k) ++ ((gt ts k).enc ++ flatT (ts.drop (k + 1))):=by
    have e1 : ts = T.take k ++ gt ts k :: ts.drop (k + 1):=by
     have e0 : ts.take k = T.take k:=by rw [hT,List.take_append_of_le_length hk]
     have hk2 : k < ts.length:=by omega
     rw [← e0,gt_at ts k hk2,← List.drop_eq_getElem_cons hk2,List.take_append_drop]
    conv=>lhs;rw [e1]
    rw [flatT_app];rfl
   have hrow : ((flatT ts ++ r).toArray.toList.take ((k + 1) * 3) ++ flatT (T.drop k) ++ (flatT ts ++ r).toArray.toList.drop ((k + 1) * 3 + (flatT (T.drop k)).length)) = flatT (T.take k ++ gt ts k :: T.drop k) ++ r:=by
    have t1 : (flatT ts ++ r).take ((k + 1) * 3) = flatT (T.take k) ++ (gt ts k).enc:=by
     rw [List.take_append_of_le_length (by omega),htk,← List.append_assoc,List.take_left' (by rw [List.length_append,hfk];show _ + 3 = _;omega)]
    have t2 : (flatT ts ++ r).drop ((k + 1) * 3 + (flatT (T.drop k)).length) = r:=List.drop_left' (by rw [hfl,hl,hts];omega)
    rw [List.toList_toArray,t1,t2,flatT_app,flatT_cons]
    simp [Tot.enc]
   have hw':=setRow_heap W g _ (flatT (T.take k ++ gt ts k :: T.drop k) ++ r).toArray _ _ hblk
   rw [hrow]
   refine ⟨?_,fun q hq=>setRow_other W g q _ hq⟩
   refine ⟨(h.bel).trans ⟨rfl,rfl,rfl,by simp [World.setRow],fun q hq=>setRow_other W g q _ (by have:=h.new;omega)⟩,h.new, ?_,h.lim,r,hw', ?_⟩
   ·have:=h.le;simp;omega
   ·rw [← hlen,List.length_append,List.length_append,flatT_len,flatT_len,hts];simp;omega
 ·obtain rfl : k = T.length:=by omega
  refine ⟨W, ?_, ?_,fun _ _=>rfl⟩
  ·rw [show T.length - T.length = 0 by omega]
   exact run_copy_noneK Tryz.prog W _ _ ty 68 3 _ _ _ _ _ _ Tryz.underlying65 hinfo (by simp)
  ·rw [List.take_length,List.drop_length,show T ++ [gt ts T.length] = ts by rw [gt_at ts T.length (by rw [hT];simp)];simp [hT]]
   exact h
end
theorem set_mid (T : List (Tot w0)) (k : Nat) (hk : k ≤ T.length) (d t : Tot w0) : (T.take k ++ d :: T.drop k).set k t = T.take k ++ t :: T.drop k:=by
 have hl : (T.take k).length = k:=by rw [List.length_take];omega
 rw [List.set_append_right _ _ (by omega),hl,Nat.sub_self];rfl
/-- totals as cells -/
def kRaw3 : Kd (CellV × CellV × CellV):=Kd.pair kRaw1 (Kd.pair kRaw1 kRaw1)
def Tot.raw (t : Tot w0) : CellV × CellV × CellV:=(⟨.slice t.A t.x.length t.c,rfl⟩,⟨.int .i64 t.hi,rfl⟩,⟨.int .i64 t.lo,rfl⟩)
theorem kRaw3_M {w : World} {base : Nat} {ok : Nat → Prop} {x : CellV × CellV × CellV} {cs : List Value} (h : kRaw3.M w base ok x cs) : cs = [x.1.val,x.2.1.val,x.2.2.val]:=by
 obtain ⟨c0,c1,rfl,h0,c2,c3,rfl,h1,h2⟩:=h
 rw [show c0 = [x.1.val] from h0,show c2 = [x.2.1.val] from h1,show c3 = [x.2.2.val] from h2];rfl
theorem kRaw3_mk (w : World) (base : Nat) (ok : Nat → Prop) (x : CellV × CellV × CellV) : kRaw3.M w base ok x [x.1.val,x.2.1.val,x.2.2.val]:=⟨[x.1.val],[x.2.1.val,x.2.2.val],rfl,rfl,[x.2.1.val],[x.2.2.val],rfl,rfl,rfl⟩
/-- the totals of v, in W -/
def TV (w0 : World) (v : Value) (ts : List (Tot w0)) (W : World) : Prop:=Below w0.heap.size w0 W ∧ kRaw3.R 68 W w0.heap.size (fun _=>True) v (ts.map Tot.raw)
theorem reps_raw3 {base : Nat} {ok : Nat → Prop} {W : World} {ts : List (Tot w0)} {inner : List Value} (h : Reps (kRaw3.M W base ok) 3 (ts.map Tot.raw) inner) : inner = flatT ts:=by
 obtain ⟨h1,h2⟩:=h
 rw [List.length_map] at h1
 have e : ∀ (j : Nat) (hj : j < ts.length),(inner.drop (j * 3)).take 3 = (gt ts j).enc:=by
  intro j hj
  have:=h2 j (gt ts j).raw (by rw [List.getElem?_map,List.getElem?_eq_getElem hj,gt_at ts j hj];rfl)
  exact kRaw3_M this
 apply List.ext_getElem?
 intro i
 by_cases hi : i / 3 < ts.length
 ·have e1:=e (i / 3) hi
  have e2 : inner[i]? = ((inner.drop (i / 3 * 3)).take 3)[i % 3]?:=by
   rw [List.getElem?_take,if_pos (by omega),List.getElem?_drop];congr 1;omega
  have:=flatT_get ts (i / 3) (i % 3) hi (by omega)
  rw [show i / 3 * 3 + i % 3 = i by omega] at this
  rw [e2,e1,this]
 ·rw [List.getElem?_eq_none (by omega),List.getElem?_eq_none (by rw [flatT_len];omega)]
theorem TV.tg {W : World} {v : Value} {ts : List (Tot w0)} (h : TV w0 v ts W) : ∃ A c,v = .slice A ts.length c ∧ ts.length ≤ c ∧ (0 < ts.length → ∃ g,A = some ⟨g,0,none⟩ ∧ TG w0 g c ts W):=by
 obtain ⟨hb,_,inner,ho,hr⟩:=h
 rw [List.length_map] at ho
 rcases ho.2 with ⟨rfl,h0⟩ | ⟨g,cap,cur,rfl,hg,hh,hnc,hmx,hcs,htk⟩
 ·rw [h0];exact ⟨none,0,rfl,Nat.le_refl _,fun h=>absurd h (Nat.lt_irrefl _)⟩
 ·refine ⟨_,cap,rfl,hnc,fun _=>⟨g,rfl,hb,hg,hnc,hmx,cur.toList.drop (ts.length * 3), ?_⟩⟩
  have e:=reps_raw3 hr
  have e2 : flatT ts ++ cur.toList.drop (ts.length * 3) = cur.toList:=by
   rw [← e,← htk];exact List.take_append_drop _ _
  rw [e2]
  exact ⟨hh,by rw [Array.length_toList,hcs];rfl⟩
theorem TG.tv {g cap : Nat} {ts : List (Tot w0)} {W : World} (h : TG w0 g cap ts W) : TV w0 (.slice (some ⟨g,0,none⟩) ts.length cap) ts W:=by
 obtain ⟨r,hblk,hlen⟩:=h.blk
 refine ⟨h.bel,fun _ _=>trivial,flatT ts,⟨by rw [flatT_len,List.length_map];rfl,.inr ⟨g,cap,_,by rw [List.length_map],h.new,hblk,by rw [List.length_map];exact h.le,h.lim,by rw [List.size_toArray,hlen];rfl, ?_⟩⟩,⟨by rw [flatT_len,List.length_map];rfl,fun j p hp=>?_⟩⟩
 ·rw [List.length_map,List.toList_toArray]
  exact List.take_left' (flatT_len ts)
 ·rw [List.getElem?_map] at hp
  obtain ⟨t,ht,rfl⟩:=Option.map_eq_some_iff.1 hp
  have hj:=(List.getElem?_eq_some_iff.1 ht).1
  have hgj : gt ts j = t:=by rw [gt_at ts j hj];exact (List.getElem?_eq_some_iff.1 ht).2
  have e : ((flatT ts).drop (j * 3)).take 3 = t.enc:=by
   apply List.ext_getElem?
   intro i
   by_cases hi : i < 3
   ·rw [List.getElem?_take,if_pos hi,List.getElem?_drop,flatT_get ts j i hj hi,hgj]
   ·rw [List.getElem?_eq_none (by rw [List.length_take];omega),List.getElem?_eq_none (by show 3 ≤ i;omega)]
  show kRaw3.M W _ _ t.raw (((flatT ts).drop (j * 3)).take 3)
  rw [e]
  exact kRaw3_mk _ _ _ _
end
end Go.Proofs.YthpkjkcfhipjhaaGreatDoor
end
section
namespace Go.Proofs.YthpkjkcfhipjhaaGreatDoor
set_option linter.unusedVariables false
set_option linter.unusedSimpArgs false
open Go.RowKit Go.Proofs.YthpkjkcfhipjhaaGreatDoorW.PrintWords Go.Proofs.YthpkjkcfhipjhaaGreatDoorW.PrintLast PRW PZA
/-- a total's row against an entry's -/
theorem rcmpT_c {w0 : World} (t : Tot w0) (e : Ent w0) (W : World) (h : Below w0.heap.size w0 W) :
  Calls Tryz.prog 32 #[.slice t.A t.x.length t.c,.slice e.A e.x.f0.length e.c] W fun r w'=>r = .returned (.int .i64 (cT t.x e.x.f0)) ∧ Below W.heap.size W w':=by
 obtain ⟨k,hk⟩:=rcmp_ev t.x e.x.f0 t.rng e.rng
 have:=hk k (Nat.le_refl _)
 rw [cT_ls t.ok e.ok] at this
 exact freshetref02_Compare.calls k t.A t.c t.x e.A e.c e.x.f0 _ W (Kd.C_below t.lies h) t.le (Kd.C_below e.lies h) e.le this
theorem andT (n : Int) : bits .and .i64 n 2147483647 = n % 2147483648:=by
 have h127 : (BitVec.ofInt 64 2147483647).toNat = 2 ^ 31 - 1:=by decide
 have key : (BitVec.ofInt 64 n &&& BitVec.ofInt 64 2147483647).toNat = (n % ((2 ^ 64 : Nat) : Int)).toNat % 2 ^ 31:=by
  rw [BitVec.toNat_and,BitVec.toNat_ofInt,h127,Nat.and_two_pow_sub_one_eq_mod]
 show IntKind.i64.wrap ((BitVec.ofInt 64 n &&& BitVec.ofInt 64 2147483647).toNat : Nat) = n % 2147483648
 rw [key,IntKind.wrap_i64]
 omega
theorem infoT : (Tryz.prog.info? 68).map (fun i=>(i.zero,i.size,i.bytes)) = some (some (.agg #[(.slice none 0 0),(.int .i64 0),(.int .i64 0)]),3,40):=by kernel_rfl
/-- where an entry belongs -/
structure Cut (w0 : World) (T : List (Tot w0)) (x : List S64) (k m : Nat) : Prop where
 le : k ≤ m
 lt : m ≤ T.length
 low : ∀ i,i < k → cT (gt T i).x x < 0
 high : ∀ i,m ≤ i → i < T.length → 0 ≤ cT (gt T i).x x
theorem Cut.up {w0 : World} {T : List (Tot w0)} {x : List S64} {k m p : Nat} {l : List S48} (h : Cut w0 T x k m) (ha : Acc l T) (hp : p < m) (hkp : k ≤ p) (hc : cT (gt T p).x x < 0) : Cut w0 T x (p + 1) m:=by
 refine ⟨hp,h.lt,fun i hi=>?_,h.high⟩
 have hz:=ha.zst
 rw [Zst,List.pairwise_map,List.pairwise_iff_getElem] at hz
 have:=h.lt
 by_cases hip : i = p
 ·rw [hip];exact hc
 ·have h1:=hz i p (by omega) (by omega) (by omega)
  rw [gt_at T i (by omega)]
  rw [gt_at T p (by omega)] at hc
  exact cT_ord.lt_tr h1 (Int.le_of_lt hc)
theorem Cut.down {w0 : World} {T : List (Tot w0)} {x : List S64} {k m p : Nat} {l : List S48} (h : Cut w0 T x k m) (ha : Acc l T) (hp : p < m) (hkp : k ≤ p) (hc : 0 ≤ cT (gt T p).x x) : Cut w0 T x k p:=by
 have:=h.lt
 refine ⟨hkp,by omega,h.low,fun i h1 h2=>?_⟩
 have hz:=ha.zst
 rw [Zst,List.pairwise_map,List.pairwise_iff_getElem] at hz
 by_cases hip : i = p
 ·rw [hip];exact hc
 ·have h3 : cT T[p].x T[i].x < 0:=hz p i (by omega) (by omega) (by omega)
  rw [gt_at T i (by omega)]
  rw [gt_at T p (by omega)] at hc
  have h4:=cT_ord.anti T[p].x T[i].x
  have h5:=cT_ord.anti x T[i].x
  have h6:=cT_ord.anti T[p].x x
  by_cases hn : cT T[i].x x < 0
  ·have:=cT_ord.lt_tr h3 (Int.le_of_lt hn);omega
  ·omega
theorem Cut.acc {w0 : World} {T : List (Tot w0)} {e : Ent w0} {k : Nat} {l : List S48} (h : Cut w0 T e.x.f0 k k) (ha : Acc l T) (hf : fair e.x.f1 = true) (hne : k < T.length → cT (gt T k).x e.x.f0 ≠ 0) (t : Tot w0) (e0 : t.x = e.x.f0) (e1 : t.hi = hiW e.x.f1) (e2 : t.lo = loW e.x.f1) :
  Acc (l ++ [e.x]) (T.take k ++ t :: T.drop k):=by
 have hz:=ha.zst
 rw [Zst,List.pairwise_map,List.pairwise_iff_getElem] at hz
 refine ha.new e.x hf k h.lt t e0 e1 e2 (fun u hu=>?_) (fun u hu=>?_)
 ·obtain ⟨i,hi,rfl⟩:=List.mem_iff_getElem.1 hu
  rw [List.length_take] at hi
  have:=h.low i (by omega)
  rw [gt_at T i (by omega)] at this
  rw [List.getElem_take];exact this
 ·obtain ⟨i,hi,rfl⟩:=List.mem_iff_getElem.1 hu
  rw [List.length_drop] at hi
  rw [List.getElem_drop]
  have h1:=h.high k (Nat.le_refl _) (by omega)
  have h2:=hne (by omega)
  rw [gt_at T k (by omega)] at h1 h2
  have h3:=cT_ord.anti T[k].x e.x.f0
  by_cases hi0 : i = 0
  ·subst hi0;simp only [Nat.add_zero];omega
  ·have h4:=hz k (k + i) (by omega) (by omega) (by omega)
   exact cT_ord.lt_tr (by omega : cT e.x.f0 T[k].x < 0) (Int.le_of_lt h4)
set_option maxRecDepth 1000000 in
set_option maxHeartbeats 16000000 in
theorem put_c {w0 : World} (v : Value) (T : List (Tot w0)) (l : List S48) (e : Ent w0) (w : World) (h : TV w0 v T w) (ha : Acc l T) (hl : l.length ≤ 1000) (hf : fair e.x.f1 = true) :
    Calls Tryz.prog 47 #[v,.agg [.slice e.A e.x.f0.length e.c,.int .i64 e.x.f1].toArray] w fun r w'=>∃ v' T',r = .returned v' ∧ TV w0 v' T' w' ∧ Acc (l ++ [e.x]) T':=by
  have hu:=Tryz.underlying68
  have hu2:=Tryz.underlying48
  obtain ⟨A,c,rfl,hc,hg⟩:=h.tg
  have hlen : T.length ≤ 1000:=Nat.le_trans ha.len hl
  obtain ⟨n,hn⟩ : ∃ n,T.length = n:=⟨_,rfl⟩
  have HV:=hidF h
  have HA:=hidF ha
  have HG:=hidF hg
  have HF:=hidF hf
  have HN:=hidF hn
  rw [hn] at hc hlen
  clear h ha hg hf
  rw [hn]
  clear hn
  have HBW : Hid (Below w0.heap.size w0 w):=hidF HV.out.1
  go_enter Tryz.func47,Tryz.ntmps47
  go_wp2
  go_loopw [5,6] (fun v5 v6 wr=>∃ k m : Nat,v5 = Value.int .i64 k ∧ v6 = Value.int .i64 m ∧ k ≤ m ∧ m ≤ n ∧ Hid (Below (w.heap.size + 1) (w.alloc (.cells #[.slice e.A e.x.f0.length e.c,.int .i64 e.x.f1] 48 (0,0))) wr) ∧ Hid (Cut w0 T e.x.f0 k m)) (fun v5 v6 _=>natOf v6 - natOf v5)
  case atStart=>exact ⟨0,n,rfl,rfl,by omega,by omega,hidF (Below.refl _ _),hidF ⟨by omega,by have:=HN.out;omega,fun i hi=>by omega,fun i h1 h2=>by have:=HN.out;omega⟩⟩
  case round =>
    obtain ⟨k,m,rfl,rfl,hkm,hmn,HB,HC⟩:=hrel
    have hTn:=HN.out
    obtain ⟨wb,hwb⟩ : ∃ wb,w.alloc (.cells #[.slice e.A e.x.f0.length e.c,.int .i64 e.x.f1] 48 (0,0)) = wb:=⟨_,rfl⟩
    have hsz : wb.heap.size = w.heap.size + 1:=by rw [← hwb];exact Array.size_push ..
    rw [hwb,← hsz] at HB
    have HBX : Hid (wb.heap[w.heap.size]? = some (.cells #[.slice e.A e.x.f0.length e.c,.int .i64 e.x.f1] 48 (0,0))):=hidF (by rw [← hwb];exact heap_alloc_new w _)
    have HBW1 : Hid (Below w.heap.size w wb):=hidF (by rw [← hwb];exact (Below.refl _ _).alloc (Nat.le_refl _) _)
    have HWB:=hidF hwb
    have HSZ:=hidF hsz
    clear hwb hsz
    by_cases hlt : k < m
    · have hd : decide ((k : Int) < (m : Int)) = true:=decide_eq_true (by omega)
      have g0 : (k : Int) < (m : Int):=by omega
      obtain ⟨km,hsum⟩ : ∃ s,k + m = s:=⟨_,rfl⟩
      obtain ⟨p,hp⟩ : ∃ p,km / 2 = p:=⟨_,rfl⟩
      have v1 : IntKind.i64.wrap ((k : Int) + (m : Int)) = (km : Int):=by rw [IntKind.wrap_i64];omega
      have v3 : Int.tdiv (km : Int) 2 = (p : Int):=by rw [Int.tdiv_eq_ediv_of_nonneg (by omega)];omega
      have v4 : IntKind.i64.wrap (p : Int) = (p : Int):=by rw [IntKind.wrap_i64];omega
      have v6 : IntKind.i64.wrap ((p : Int) + 1) = ((p + 1 : Nat) : Int):=by rw [IntKind.wrap_i64];omega
      have c1 : p < T.length:=by omega
      have c2 : p < n:=by omega
      have c3 : (p : Int) < (n : Int):=by omega
      have c4 : 0 ≤ (p : Int):=by omega
      have hpm : p < m:=by omega
      have hkp : k ≤ p:=by omega
      obtain ⟨g,rfl,hTG⟩:=HG.out (by omega)
      have HTG:=hidF hTG
      clear hTG
      obtain ⟨t,ht⟩ : ∃ t,gt T p = t:=⟨_,rfl⟩
      have HTP:=hidF ht
      have hC : Below wb.heap.size wb { wr with drawn:=wr.drawn + 1 }:=HB.out.drew
      clear hsum hp ht
      by_cases hcc : cT t.x e.x.f0 < 0
      · have hcd : decide (cT t.x e.x.f0 < 0) = true:=decide_eq_true hcc
        have HC2:=hidF (HC.out.up HA.out (p:=p) hpm hkp (by rw [HTP.out];exact hcc))
        clear HC
        go_wp2_with fail
        refine zregion (C:=fun W=>Below wb.heap.size wb W) (by kernel_rfl) (by kernel_rfl) hC ?_
        clear hC
        repeat (first
          | go_big_quiet_skip
          | (go_big_quiet_want;first
              | (go_big_quiet_op;go_big_quiet_on)
              | (apply Exists.intro
                 refine ⟨fun w' hw'=>?_, ?_⟩
                 · (have HC':=Lib.hid hw'
                    have hsb:=HTG.out.below (HBW1.out.trans (hw'.mono HBW1.out.size))
                    have HSB:=hidF hsb.bel
                    have hbx:=(hw'.block _ (heap_lt HBX.out)).trans HBX.out
                    have i0:=hsb.c0 p c1
                    have b0 : w'.cell? ⟨w.heap.size,0,none⟩ = some (.slice e.A e.x.f0.length e.c):=(blk_cell hbx 0).trans rfl
                    rw [HTP.out] at i0
                    clear hw' hsb hbx
                    go_simp
                    first
                      | exact rfl
                      | ((with_reducible refine (rcmpT_c t e _ HSB.out).mono ?_);rintro e' w'' ⟨rfl,hb⟩;exact ⟨rfl,HC'.out.trans (hb.mono HC'.out.size)⟩))
                 go_simp
                 go_big_quiet_on)))
        refine wpQuiet_nil ?_
        intro w' hw'
        have HB9:=hidF hw'
        clear hw'
        go_wp2
        go_roundw
        case rel=>exact ⟨p + 1,m,rfl,rfl,by omega,by omega,hidF (by rw [HWB.out,← HSZ.out];exact HB9.out),HC2⟩
        case measure=>simp [natOf];omega
      · have hcd : decide (cT t.x e.x.f0 < 0) = false:=decide_eq_false hcc
        have hcc' : 0 ≤ cT t.x e.x.f0:=by omega
        have HC2:=hidF (HC.out.down HA.out (p:=p) hpm hkp (by rw [HTP.out];exact hcc'))
        clear HC hcc'
        go_wp2_with fail
        refine zregion (C:=fun W=>Below wb.heap.size wb W) (by kernel_rfl) (by kernel_rfl) hC ?_
        clear hC
        repeat (first
          | go_big_quiet_skip
          | (go_big_quiet_want;first
              | (go_big_quiet_op;go_big_quiet_on)
              | (apply Exists.intro
                 refine ⟨fun w' hw'=>?_, ?_⟩
                 · (have HC':=Lib.hid hw'
                    have hsb:=HTG.out.below (HBW1.out.trans (hw'.mono HBW1.out.size))
                    have HSB:=hidF hsb.bel
                    have hbx:=(hw'.block _ (heap_lt HBX.out)).trans HBX.out
                    have i0:=hsb.c0 p c1
                    have b0 : w'.cell? ⟨w.heap.size,0,none⟩ = some (.slice e.A e.x.f0.length e.c):=(blk_cell hbx 0).trans rfl
                    rw [HTP.out] at i0
                    clear hw' hsb hbx
                    go_simp
                    first
                      | exact rfl
                      | ((with_reducible refine (rcmpT_c t e _ HSB.out).mono ?_);rintro e' w'' ⟨rfl,hb⟩;exact ⟨rfl,HC'.out.trans (hb.mono HC'.out.size)⟩))
                 go_simp
                 go_big_quiet_on)))
        refine wpQuiet_nil ?_
        intro w' hw'
        have HB9:=hidF hw'
        clear hw'
        go_wp2
        go_roundw
        case rel=>exact ⟨k,p,rfl,rfl,by omega,by omega,hidF (by rw [HWB.out,← HSZ.out];exact HB9.out),HC2⟩
        case measure=>simp [natOf];omega
    · have hd : decide ((k : Int) < (m : Int)) = false:=decide_eq_false (by omega)
      have g0 : ¬ (k : Int) < (m : Int):=by omega
      obtain rfl : m = k:=by omega
      obtain ⟨k,rfl⟩ : ∃ k,k = m:=⟨_,rfl⟩
      have hC : Below wb.heap.size wb { wr with drawn:=wr.drawn + 1 }:=HB.out.drew
      clear HB hkm hlt
      by_cases hkn : k < n
      · have c1 : k < T.length:=by omega
        have c3 : (k : Int) < (n : Int):=by omega
        have c4 : 0 ≤ (k : Int):=by omega
        have d1 : decide ((k : Int) < (n : Int)) = true:=decide_eq_true c3
        obtain ⟨g,rfl,hTG⟩:=HG.out (by omega)
        have HTG:=hidF hTG
        clear hTG
        obtain ⟨t,ht⟩ : ∃ t,gt T k = t:=⟨_,rfl⟩
        have HTP:=hidF ht
        clear ht
        by_cases hcc : cT t.x e.x.f0 = 0
        · have hcd : decide (cT t.x e.x.f0 = 0) = true:=decide_eq_true hcc
          have hce : (cT t.x e.x.f0 == 0) = true:=by rw [hcc];rfl
          have HCC:=hidF hcc
          clear hcc
          go_wp2_with fail
          refine zregion (C:=fun W=>Below wb.heap.size wb W) (by kernel_rfl) (by kernel_rfl) hC ?_
          clear hC
          repeat (first
            | go_big_quiet_skip
            | (go_big_quiet_want;first
                | (go_big_quiet_op;go_big_quiet_on)
                | (apply Exists.intro
                   refine ⟨fun w' hw'=>?_, ?_⟩
                   · (have HC':=Lib.hid hw'
                      have hsb:=HTG.out.below (HBW1.out.trans (hw'.mono HBW1.out.size))
                      have HSB:=hidF hsb.bel
                      have hbx:=(hw'.block _ (heap_lt HBX.out)).trans HBX.out
                      have i0:=hsb.c0 k c1
                      have b0 : w'.cell? ⟨w.heap.size,0,none⟩ = some (.slice e.A e.x.f0.length e.c):=(blk_cell hbx 0).trans rfl
                      rw [HTP.out] at i0
                      clear hw' hsb hbx
                      go_simp
                      first
                        | exact rfl
                        | ((with_reducible refine (rcmpT_c t e _ HSB.out).mono ?_);rintro e' w'' ⟨rfl,hb⟩;exact ⟨rfl,HC'.out.trans (hb.mono HC'.out.size)⟩))
                   go_simp
                   go_big_quiet_on)))
          refine wpQuiet_nil ?_
          intro w3 hw'
          have HB9:=hidF hw'
          clear hw'
          have hTG3:=HTG.out.below (HBW1.out.trans (HB9.out.mono HBW1.out.size))
          have HTG3:=hidF hTG3
          have i0:=hTG3.c0 k c1
          have i1:=hTG3.c1 k c1
          have i2:=hTG3.c2 k c1
          rw [HTP.out] at i0 i1 i2
          have f0:=hTG3.fr
          have hbx:=(HB9.out.block _ (heap_lt HBX.out)).trans HBX.out
          have b1 : w3.cell? ⟨w.heap.size,1,none⟩ = some (.int .i64 e.x.f1):=(blk_cell hbx 1).trans rfl
          have hgl:=hTG3.lt
          have hbl:=heap_lt hbx
          clear hTG3 hbx
          go_wp2
          go_ret
          have hput:=HTG3.out.put k c1 { t with hi:=t.hi + hiW e.x.f1,lo:=t.lo + loW e.x.f1 }
          have htk : T[k]? = some t:=by rw [List.getElem?_eq_getElem c1,← gt_at T k c1,HTP.out]
          have hacc:=HA.out.more e.x HF.out k t htk HCC.out
          obtain ⟨q1,q2,q3,q4⟩:=HA.out.bnd t (List.mem_of_getElem? htk)
          obtain ⟨q5,q6,q7,q8⟩:=hiW_b HF.out
          have wh : wrap64 (t.hi + e.x.f1 / 2147483648) = t.hi + hiW e.x.f1:=by unfold hiW at *;unfold wrap64;omega
          have wl : wrap64 (t.lo + bits .and .i64 e.x.f1 2147483647) = t.lo + loW e.x.f1:=by rw [andT];unfold loW at *;unfold wrap64;omega
          refine ⟨_,_,rfl, ?_,hacc⟩
          have:=(hput.below ((Below.refl _ _).alloc (Nat.le_refl _) (Obj.cells #[Value.slice t.A t.x.length t.c,Value.int IntKind.i64 t.hi,Value.int IntKind.i64 t.lo] 68 (0,0)))).tv
          rw [List.length_set,HN.out] at this
          unfold putW at this
          rw [wh,wl]
          exact this
        · have hcd : decide (cT t.x e.x.f0 = 0) = false:=decide_eq_false hcc
          have hce : (cT t.x e.x.f0 == 0) = false:=beq_eq_false_iff_ne.2 hcc
          have HCC : Hid (k < T.length → cT (gt T k).x e.x.f0 ≠ 0):=hidF fun _=>by rw [HTP.out];exact hcc
          clear hcc
          go_wp2_with fail
          refine zregion (C:=fun W=>Below wb.heap.size wb W) (by kernel_rfl) (by kernel_rfl) hC ?_
          clear hC
          repeat (first
            | go_big_quiet_skip
            | (go_big_quiet_want;first
                | (go_big_quiet_op;go_big_quiet_on)
                | (apply Exists.intro
                   refine ⟨fun w' hw'=>?_, ?_⟩
                   · (have HC':=Lib.hid hw'
                      have hsb:=HTG.out.below (HBW1.out.trans (hw'.mono HBW1.out.size))
                      have HSB:=hidF hsb.bel
                      have hbx:=(hw'.block _ (heap_lt HBX.out)).trans HBX.out
                      have i0:=hsb.c0 k c1
                      have b0 : w'.cell? ⟨w.heap.size,0,none⟩ = some (.slice e.A e.x.f0.length e.c):=(blk_cell hbx 0).trans rfl
                      rw [HTP.out] at i0
                      clear hw' hsb hbx
                      go_simp
                      first
                        | exact rfl
                        | ((with_reducible refine (rcmpT_c t e _ HSB.out).mono ?_);rintro e' w'' ⟨rfl,hb⟩;exact ⟨rfl,HC'.out.trans (hb.mono HC'.out.size)⟩))
                   go_simp
                   go_big_quiet_on)))
          refine wpQuiet_nil ?_
          intro w3 hw'
          have HB9:=hidF hw'
          clear hw'
          have HV3 : Hid (kRaw3.R 68 w3 w0.heap.size (fun _=>True) (.slice (some ⟨g,0,none⟩) n c) (T.map Tot.raw)):=hidF (Kd.R_below (by have:=HV.out.2;rwa [HN.out] at this) (HBW1.out.trans (HB9.out.mono HBW1.out.size)))
          have HBX3:=hidF ((HB9.out.block _ (heap_lt HBX.out)).trans HBX.out)
          have HB3 : Hid (Below w0.heap.size w0 w3):=hidF (HBW.out.trans ((HBW1.out.trans (HB9.out.mono HBW1.out.size)).mono HBW.out.size))
          have HOB : Hid (some w.heap.size ≠ (.slice (some ⟨g,0,none⟩) n c : Value).ownBlock):=hidF (fun he=>by have:=Kd.R_lt HV.out.2 w.heap.size (by rw [HN.out];exact he.symm);omega)
          go_wp2_with ((with_reducible refine gate_builtin (b:=.append) (xs:=#[.tmp 68,.tmp 70]) rfl ?_);at_builtin;refine Kd.R_append kRaw3 (w0:=w0) w0.heap.size rfl (.tmp 68) (.tmp 70) 65 68 (.agg #[(.slice none 0 0),(.int .i64 0),(.int .i64 0)]) 40 rfl Tryz.underlying65 infoT rfl (by decide) (by omega) (.slice (some ⟨g,0,none⟩) n c) (T.map Tot.raw) (Tot.raw (default : Tot w0)) [.slice none 0 0,.int .i64 0,.int .i64 0] (fun _=>True) (fun k=>True ∧ some k ≠ (.slice (some ⟨g,0,none⟩) n c : Value).ownBlock) rfl rfl ?aP (fun _ hk=>hk) ?aF ?aO ?aB ?aS ?aL ?_;(case aP=>exact kRaw3_mk _ _ _ _);(case aB=>exact HB3.out);(case aF=>exact fun _ _=>trivial);(case aO=>exact HV3.out);(case aS=>exact HB3.out.size);(case aL=>rw [List.length_map];omega);intro v4 w4 ho4 hb4 hg4 hn4;clear hn4;have HO4:=hidF ho4;have HB4:=hidF hb4;have HG4:=hidF hg4;clear ho4 hb4 hg4;have HBX4:=hidF ((HG4.out.block _ (heap_lt HBX3.out) HOB.out).trans HBX3.out);have HT4 : Hid (TV w0 v4 (T ++ [default]) w4):=hidF (⟨HB4.out,by rw [List.map_append];exact HO4.out⟩);obtain ⟨A4,c4,e4,hc4,hg4⟩:=HT4.out.tg;obtain ⟨g4,e5,hT4⟩:=hg4 (by simp);have HTG4:=hidF hT4;subst e4;subst e5;clear hT4 hg4;rw [List.length_append,HN.out,List.length_singleton] at hc4;rw [List.length_append,HN.out,List.length_singleton])
          have v9 : IntKind.i64.wrap ((k : Int) + 1) = ((k + 1 : Nat) : Int):=by rw [IntKind.wrap_i64];omega
          have r1 : k + 1 ≤ n + 1:=by omega
          have r2 : k ≤ n + 1:=by omega
          have x1 : ¬ c4 = k:=by omega
          have x2 : ¬ c4 = k + 1:=by omega
          have HNE : Hid (w.heap.size ≠ g4):=hidF (fun he=>by
            obtain ⟨r,hb,_⟩:=HTG4.out.blk
            rw [← he,HBX4.out] at hb
            injection hb with hb
            injection hb with _ hb
            exact absurd hb (by decide))
          obtain ⟨w5,hcp,hT5,hoth⟩:=HTG4.out.drew.shift k T default rfl (by have:=HN.out;omega) 3 (some ⟨g4,(k + 1) * 3,none⟩) (c4 - (k + 1)) (c4 - k) (fun _=>rfl)
          rw [HN.out] at hcp
          have HT5:=hidF hT5
          have hl5 : k < (T.take k ++ gt (T ++ [default]) k :: T.drop k).length:=by have:=HN.out;simp;omega
          have i0:=hT5.c0 k hl5
          have i1:=hT5.c1 k hl5
          have i2:=hT5.c2 k hl5
          have hbx5 : w5.heap[w.heap.size]? = some (.cells #[.slice e.A e.x.f0.length e.c,.int .i64 e.x.f1] 48 (0,0)):=(hoth _ HNE.out).trans HBX4.out
          have b0 : w5.cell? ⟨w.heap.size,0,none⟩ = some (.slice e.A e.x.f0.length e.c):=(blk_cell hbx5 0).trans rfl
          have b1 : w5.cell? ⟨w.heap.size,1,none⟩ = some (.int .i64 e.x.f1):=(blk_cell hbx5 1).trans rfl
          have f0:=hT5.fr
          generalize gt (T.take k ++ gt (T ++ [default]) k :: T.drop k) k = dd at i0 i1 i2
          clear hT5 hoth hbx5 hl5
          go_region_with fail
          all_goals
            go_wp2
            go_ret
            have hput:=HT5.out.put k (by have:=HN.out;simp;omega) { A:=e.A,c:=e.c,x:=e.x.f0,hi:=hiW e.x.f1,lo:=loW e.x.f1,le:=e.le,lies:=e.lies,rng:=e.rng,snd:=e.snd }
            rw [set_mid T k (by have:=HN.out;omega)] at hput
            have hcut : Cut w0 T e.x.f0 k k:=HC.out
            have hacc:=hcut.acc HA.out HF.out HCC.out { A:=e.A,c:=e.c,x:=e.x.f0,hi:=hiW e.x.f1,lo:=loW e.x.f1,le:=e.le,lies:=e.lies,rng:=e.rng,snd:=e.snd } rfl rfl rfl
            refine ⟨_,_,rfl, ?_,hacc⟩
            have:=hput.tv
            rw [show (T.take k ++ { A:=e.A,c:=e.c,x:=e.x.f0,hi:=hiW e.x.f1,lo:=loW e.x.f1,le:=e.le,lies:=e.lies,rng:=e.rng,snd:=e.snd } :: T.drop k).length = n + 1 by have:=HN.out;simp;omega] at this
            unfold putW at this
            rw [andT]
            exact this
      · have d1 : decide ((k : Int) < (n : Int)) = false:=decide_eq_false (by omega)
        have g1 : ¬ (k : Int) < (n : Int):=by omega
        have HCC : Hid (k < T.length → cT (gt T k).x e.x.f0 ≠ 0):=hidF fun h=>by omega
        go_wp2_with fail
        refine zregion (C:=fun W=>Below wb.heap.size wb W) (by kernel_rfl) (by kernel_rfl) hC ?_
        clear hC
        repeat (first
          | go_big_quiet_skip
          | (go_big_quiet_want;first
              | (go_big_quiet_op;go_big_quiet_on)
              | (apply Exists.intro
                 refine ⟨fun w' hw'=>?_, ?_⟩
                 · (clear hw'
                    go_simp
                    exact rfl)
                 go_simp
                 go_big_quiet_on)))
        refine wpQuiet_nil ?_
        intro w3 hw'
        have HB9:=hidF hw'
        clear hw'
        have HV3 : Hid (kRaw3.R 68 w3 w0.heap.size (fun _=>True) (.slice A n c) (T.map Tot.raw)):=hidF (Kd.R_below (by have:=HV.out.2;rwa [HN.out] at this) (HBW1.out.trans (HB9.out.mono HBW1.out.size)))
        have HBX3:=hidF ((HB9.out.block _ (heap_lt HBX.out)).trans HBX.out)
        have HB3 : Hid (Below w0.heap.size w0 w3):=hidF (HBW.out.trans ((HBW1.out.trans (HB9.out.mono HBW1.out.size)).mono HBW.out.size))
        have HOB : Hid (some w.heap.size ≠ (.slice A n c : Value).ownBlock):=hidF (fun he=>by have:=Kd.R_lt HV.out.2 w.heap.size (by rw [HN.out];exact he.symm);omega)
        go_wp2_with ((with_reducible refine gate_builtin (b:=.append) (xs:=#[.tmp 68,.tmp 70]) rfl ?_);at_builtin;refine Kd.R_append kRaw3 (w0:=w0) w0.heap.size rfl (.tmp 68) (.tmp 70) 65 68 (.agg #[(.slice none 0 0),(.int .i64 0),(.int .i64 0)]) 40 rfl Tryz.underlying65 infoT rfl (by decide) (by omega) (.slice A n c) (T.map Tot.raw) (Tot.raw (default : Tot w0)) [.slice none 0 0,.int .i64 0,.int .i64 0] (fun _=>True) (fun k=>True ∧ some k ≠ (.slice A n c : Value).ownBlock) rfl rfl ?aP (fun _ hk=>hk) ?aF ?aO ?aB ?aS ?aL ?_;(case aP=>exact kRaw3_mk _ _ _ _);(case aB=>exact HB3.out);(case aF=>exact fun _ _=>trivial);(case aO=>exact HV3.out);(case aS=>exact HB3.out.size);(case aL=>rw [List.length_map];omega);intro v4 w4 ho4 hb4 hg4 hn4;clear hn4;have HO4:=hidF ho4;have HB4:=hidF hb4;have HG4:=hidF hg4;clear ho4 hb4 hg4;have HBX4:=hidF ((HG4.out.block _ (heap_lt HBX3.out) HOB.out).trans HBX3.out);have HT4 : Hid (TV w0 v4 (T ++ [default]) w4):=hidF (⟨HB4.out,by rw [List.map_append];exact HO4.out⟩);obtain ⟨A4,c4,e4,hc4,hg4⟩:=HT4.out.tg;obtain ⟨g4,e5,hT4⟩:=hg4 (by simp);have HTG4:=hidF hT4;subst e4;subst e5;clear hT4 hg4;rw [List.length_append,HN.out,List.length_singleton] at hc4;rw [List.length_append,HN.out,List.length_singleton])
        have v9 : IntKind.i64.wrap ((k : Int) + 1) = ((k + 1 : Nat) : Int):=by rw [IntKind.wrap_i64];omega
        have r1 : k + 1 ≤ n + 1:=by omega
        have r2 : k ≤ n + 1:=by omega
        by_cases hk4 : k + 1 < c4
        · have x1 : ¬ c4 = k:=by omega
          have x2 : ¬ c4 = k + 1:=by omega
          have HNE : Hid (w.heap.size ≠ g4):=hidF (fun he=>by
            obtain ⟨r,hb,_⟩:=HTG4.out.blk
            rw [← he,HBX4.out] at hb
            injection hb with hb
            injection hb with _ hb
            exact absurd hb (by decide))
          obtain ⟨w5,hcp,hT5,hoth⟩:=HTG4.out.drew.shift k T default rfl (by have:=HN.out;omega) 3 (some ⟨g4,(k + 1) * 3,none⟩) (c4 - (k + 1)) (c4 - k) (fun _=>rfl)
          rw [HN.out] at hcp
          have HT5:=hidF hT5
          have hl5 : k < (T.take k ++ gt (T ++ [default]) k :: T.drop k).length:=by have:=HN.out;simp;omega
          have i0:=hT5.c0 k hl5
          have i1:=hT5.c1 k hl5
          have i2:=hT5.c2 k hl5
          have hbx5 : w5.heap[w.heap.size]? = some (.cells #[.slice e.A e.x.f0.length e.c,.int .i64 e.x.f1] 48 (0,0)):=(hoth _ HNE.out).trans HBX4.out
          have b0 : w5.cell? ⟨w.heap.size,0,none⟩ = some (.slice e.A e.x.f0.length e.c):=(blk_cell hbx5 0).trans rfl
          have b1 : w5.cell? ⟨w.heap.size,1,none⟩ = some (.int .i64 e.x.f1):=(blk_cell hbx5 1).trans rfl
          have f0:=hT5.fr
          generalize gt (T.take k ++ gt (T ++ [default]) k :: T.drop k) k = dd at i0 i1 i2
          clear hT5 hoth hbx5 hl5
          go_region_with fail
          all_goals
            go_wp2
            go_ret
            have hput:=HT5.out.put k (by have:=HN.out;simp;omega) { A:=e.A,c:=e.c,x:=e.x.f0,hi:=hiW e.x.f1,lo:=loW e.x.f1,le:=e.le,lies:=e.lies,rng:=e.rng,snd:=e.snd }
            rw [set_mid T k (by have:=HN.out;omega)] at hput
            have hcut : Cut w0 T e.x.f0 k k:=HC.out
            have hacc:=hcut.acc HA.out HF.out HCC.out { A:=e.A,c:=e.c,x:=e.x.f0,hi:=hiW e.x.f1,lo:=loW e.x.f1,le:=e.le,lies:=e.lies,rng:=e.rng,snd:=e.snd } rfl rfl rfl
            refine ⟨_,_,rfl, ?_,hacc⟩
            have:=hput.tv
            rw [show (T.take k ++ { A:=e.A,c:=e.c,x:=e.x.f0,hi:=hiW e.x.f1,lo:=loW e.x.f1,le:=e.le,lies:=e.lies,rng:=e.rng,snd:=e.snd } :: T.drop k).length = n + 1 by have:=HN.out;simp;omega] at this
            unfold putW at this
            rw [andT]
            exact this
        · have hk5 : c4 - (k + 1) = 0:=by omega
          obtain rfl : c4 = k + 1:=by omega
          obtain rfl : k = n:=by omega
          clear hk5 hk4
          have HNE : Hid (w.heap.size ≠ g4):=hidF (fun he=>by
            obtain ⟨r,hb,_⟩:=HTG4.out.blk
            rw [← he,HBX4.out] at hb
            injection hb with hb
            injection hb with _ hb
            exact absurd hb (by decide))
          obtain ⟨w5,hcp,hT5,hoth⟩:=HTG4.out.drew.shift k T default rfl (by have:=HN.out;omega) 3 (some ⟨g4,0,none⟩) 0 1 (fun h=>by have:=HN.out;omega)
          rw [HN.out,Nat.sub_self,Nat.add_sub_cancel_left] at hcp
          have HT5:=hidF hT5
          have hl5 : k < (T.take k ++ gt (T ++ [default]) k :: T.drop k).length:=by have:=HN.out;simp;omega
          have i0:=hT5.c0 k hl5
          have i1:=hT5.c1 k hl5
          have i2:=hT5.c2 k hl5
          have hbx5 : w5.heap[w.heap.size]? = some (.cells #[.slice e.A e.x.f0.length e.c,.int .i64 e.x.f1] 48 (0,0)):=(hoth _ HNE.out).trans HBX4.out
          have b0 : w5.cell? ⟨w.heap.size,0,none⟩ = some (.slice e.A e.x.f0.length e.c):=(blk_cell hbx5 0).trans rfl
          have b1 : w5.cell? ⟨w.heap.size,1,none⟩ = some (.int .i64 e.x.f1):=(blk_cell hbx5 1).trans rfl
          have f0:=hT5.fr
          generalize gt (T.take k ++ gt (T ++ [default]) k :: T.drop k) k = dd at i0 i1 i2
          clear hT5 hoth hbx5 hl5
          go_region_with fail
          all_goals
            go_wp2
            go_ret
            have hput:=HT5.out.put k (by have:=HN.out;simp;omega) { A:=e.A,c:=e.c,x:=e.x.f0,hi:=hiW e.x.f1,lo:=loW e.x.f1,le:=e.le,lies:=e.lies,rng:=e.rng,snd:=e.snd }
            rw [set_mid T k (by have:=HN.out;omega)] at hput
            have hcut : Cut w0 T e.x.f0 k k:=HC.out
            have hacc:=hcut.acc HA.out HF.out HCC.out { A:=e.A,c:=e.c,x:=e.x.f0,hi:=hiW e.x.f1,lo:=loW e.x.f1,le:=e.le,lies:=e.lies,rng:=e.rng,snd:=e.snd } rfl rfl rfl
            refine ⟨_,_,rfl, ?_,hacc⟩
            have:=hput.tv
            rw [show (T.take k ++ { A:=e.A,c:=e.c,x:=e.x.f0,hi:=hiW e.x.f1,lo:=loW e.x.f1,le:=e.le,lies:=e.lies,rng:=e.rng,snd:=e.snd } :: T.drop k).length = k + 1 by have:=HN.out;simp;omega] at this
            unfold putW at this
            rw [andT]
            exact this
end Go.Proofs.YthpkjkcfhipjhaaGreatDoor
end
section
namespace Go.Proofs.YthpkjkcfhipjhaaGreatDoor
set_option linter.unusedVariables false
set_option linter.unusedSimpArgs false
open Go.RowKit Go.Proofs.YthpkjkcfhipjhaaGreatDoorW.PrintWords Go.Proofs.YthpkjkcfhipjhaaGreatDoorW.PrintLast PRW PZA PZF
theorem fair3_c (n : Int) (W : World) : Calls Tryz.prog 46 #[.int .i64 n] W fun e w'=>e = .returned (.bool (fair n)) ∧ Below W.heap.size W w':=by
 refine (freshetref03_fair.calls n (fair n) W ?_).mono fun e w' ⟨h1,h2⟩=>⟨h1,h2.below⟩
 unfold freshetref03_fair.f fair
 by_cases h : n ≥ -4611686018427387904
 ·rw [if_pos h];simp [show -4611686018427387904 ≤ n from h]
 ·rw [if_neg h];simp [show ¬ -4611686018427387904 ≤ n from h]
set_option maxRecDepth 100000 in
set_option maxHeartbeats 4000000 in
theorem weightT_c {w0 : World} (t : Tot w0) (H L : Int) (hH : t.hi + t.lo / 2147483648 = H) (hL : t.lo % 2147483648 = L) (b1 : -9223372036854775808 ≤ t.hi) (b2 : t.hi ≤ 4611686018427387904) (b3 : 0 ≤ t.lo) (b4 : t.lo ≤ 4611686018427387904) (W : World) :
  Calls Tryz.prog 48 #[.agg #[.slice t.A t.x.length t.c,.int .i64 t.hi,.int .i64 t.lo]] W fun e w'=>∃ v,e = .returned (.tuple #[.int .i64 v,.bool (fair t.sum)]) ∧ (fair t.sum = true → v = t.sum) ∧ Below W.heap.size W w':=by
 have hu:=Tryz.underlying68
 have hs : t.sum = H * 2147483648 + L:=by unfold Tot.sum;omega
 have HS:=hidF hs
 have v1 : IntKind.i64.wrap (t.hi + t.lo / 2147483648) = H:=by rw [IntKind.wrap_i64];omega
 have v2 : bits .and .i64 t.lo 2147483647 = L:=by rw [andT];omega
 have HH:=hidF hH
 have HL:=hidF hL
 clear hs hH hL
 by_cases h1 : 4294967296 ≤ H
 ·have d1 : decide (H ≥ 4294967296) = true:=decide_eq_true h1
  have d2 : decide (4294967296 ≤ H) = true:=decide_eq_true h1
  have HF : Hid (fair t.sum = false):=hidF (by rw [Bool.eq_false_iff];intro h;have:=fair_iff.1 h;have:=HS.out;have:=HL.out;omega)
  go_enter Tryz.func48,Tryz.ntmps48
  go_wp2
  go_ret2
  exact ⟨0,by (rw [HF.out];rfl),fun h=>(by rw [HF.out] at h;cases h),(Below.refl _ _).alloc (Nat.le_refl _) _⟩
 ·have d1 : decide (H ≥ 4294967296) = false:=decide_eq_false h1
  have d2 : decide (4294967296 ≤ H) = false:=decide_eq_false h1
  by_cases h2 : H < -4294967296
  ·have d3 : decide (H < -4294967296) = true:=decide_eq_true h2
   have HF : Hid (fair t.sum = false):=hidF (by rw [Bool.eq_false_iff];intro h;have:=fair_iff.1 h;have:=HS.out;have:=HL.out;omega)
   go_enter Tryz.func48,Tryz.ntmps48
   go_wp2
   go_ret2
   exact ⟨0,by (rw [HF.out];rfl),fun h=>(by rw [HF.out] at h;cases h),(Below.refl _ _).alloc (Nat.le_refl _) _⟩
  ·have d3 : decide (H < -4294967296) = false:=decide_eq_false h2
   obtain ⟨sm,hsm⟩ : ∃ sm,H * 2147483648 + L = sm:=⟨_,rfl⟩
   have hLb : 0 ≤ L ∧ L < 2147483648:=by have:=HL.out;omega
   have v3 : IntKind.i64.wrap (H * 2147483648 + L) = sm:=by rw [IntKind.wrap_i64];omega
   have HSM : Hid (t.sum = sm):=hidF (by rw [HS.out,hsm])
   clear hsm hLb
   go_enter Tryz.func48,Tryz.ntmps48
   go_wp2_with (go_at_call 46;((with_reducible refine (fair3_c sm _).mono ?_);rintro e w1 ⟨rfl,hb⟩))
   go_ret2
   exact ⟨sm,by (rw [HSM.out];rfl),fun _=>HSM.out.symm,((Below.refl _ _).alloc (Nat.le_refl _) _).trans (hb.mono (by show W.heap.size ≤ (W.heap.push _).size;rw [Array.size_push];omega))⟩
end Go.Proofs.YthpkjkcfhipjhaaGreatDoor
end
