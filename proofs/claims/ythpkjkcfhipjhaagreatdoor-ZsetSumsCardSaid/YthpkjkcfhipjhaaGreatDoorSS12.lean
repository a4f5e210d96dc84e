/- a part of the claim: what the card leans on, out of the texts ZA4, ZA5, ZA6, ZA7, ZT5, ZT6, XZS, XZ0 (put together by wip/tools/shake.py). -/
import Derived.Test.YthpkjkcfhipjhaaGreatDoorSS4
import Derived.Test.YthpkjkcfhipjhaaGreatDoorSS11
import Derived.Deep.RegionWith
import Derived.Lib.AppendZerosOnto
import Derived.Lib.Walk
section
namespace Go.Proofs.YthpkjkcfhipjhaaGreatDoor
set_option linter.unusedVariables false
set_option linter.unusedSimpArgs false
open Go.RowKit Go.Proofs.YthpkjkcfhipjhaaGreatDoorW.PrintWords Go.Proofs.YthpkjkcfhipjhaaGreatDoorW.PrintLast PRW PZA
theorem SB.grown {w0 W w1 : World} {b : Nat} {xs : List (Ent w0)} {row : Option Nat} (h : SB w0 b xs W) (hb : Below w0.heap.size w0 w1) (hg : W.grownBy w1 row) (hr : some b ≠ row) : SB w0 b xs w1 :=
 ⟨hb,h.new,h.blk.elim fun r e=>⟨r,(hg.block b h.lt hr).trans e⟩⟩
def MakeOut (l : List S48) (w : World) (e : Ending) (w' : World) : Prop :=
 ∃ v0,e = .returned (.tuple #[v0,.int .i64 (makeP l).2]) ∧ Kd.R k48 48 w' w.heap.size (fun _=>True) v0 (makeP l).1 ∧ Below w.heap.size w w'
theorem MakeOut.of {l : List S48} {w w' : World} {v0 : Value} {r1 : List S48} {r2 : Int} (h : makeP l = (r1,r2)) (hR : Kd.R k48 48 w' w.heap.size (fun _=>True) v0 r1) (hb : Below w.heap.size w w') : MakeOut l w (.returned (.tuple #[v0,.int .i64 r2])) w' :=
 ⟨v0,by rw [h],by rw [h];exact hR,hb⟩
theorem below_undrew' {W w1 : World} (h : Below W.drew.heap.size W.drew w1) : Below W.heap.size W w1:=below_undrew h
theorem row_len {a : List S64} (h : soundL a = true) : a.length ≤ 1000000:=by
 unfold soundL at h;simp at h;omega
theorem any_okE (l : List S48) : (l.any fun x=>!okE x) = !l.all okE:=by rw [List.all_eq_not_any_not];simp
set_option maxRecDepth 100000 in
set_option maxHeartbeats 4000000 in
theorem make_no (A0 : Option Addr) (c0 : Nat) (l : List S48) (w : World) (hr : Kd.C k48 w A0 l.length l) (hR : ∀ x ∈ l,rngL x.f0 = true ∧ I64 x.f1) (hok : l.all okE = false) :
  Calls Tryz.prog 7 #[.slice A0 l.length c0] w (MakeOut l w):=by
 have CF:=containsFuncE_c 38 enter_make1 _ make1_c A0 c0 l w hr (fun x hx=>(hR x hx).1)
 rw [any_okE,hok] at CF
 have HC:=hidF CF
 have HM : Hid (makeP l = ([],1)):=hidF (by unfold makeP;rw [hok];rfl)
 clear CF hok hr hR
 go_enter Tryz.func7,Tryz.ntmps7
 go_wp2_with (go_at_call 37;((with_reducible refine HC.out.mono ?_);rintro e w1 ⟨rfl,hb⟩))
 go_ret2
 exact MakeOut.of HM.out (Kd.R_nil _ _ _ _ _) hb
set_option maxRecDepth 100000 in
set_option maxHeartbeats 4000000 in
theorem make_nil (A0 : Option Addr) (c0 : Nat) (w : World) : Calls Tryz.prog 7 #[.slice A0 0 c0] w (MakeOut [] w):=by
 have hr0 : Kd.C k48 w A0 0 ([] : List S48):=⟨rfl,by decide,fun h=>absurd h (Nat.lt_irrefl 0)⟩
 have CF:=containsFuncE_c 38 enter_make1 _ make1_c A0 c0 [] w hr0 (fun x hx=>absurd hx List.not_mem_nil)
 have HC : Hid (Calls Tryz.prog 37 #[.slice A0 0 c0,.func (.func 38) #[] #[]] w fun e w'=>e = .returned (.bool false) ∧ Below w.heap.size w w'):=hidF CF
 have CC : Hid (∀ W,Calls Tryz.prog 40 #[.slice A0 0 c0] W fun e w'=>∃ A c,e = .returned (.slice A 0 c) ∧ Below W.heap.size W w'):=hidF fun W =>
  (cloneEnt_c (w0:=W) A0 c0 0 W (Below.refl _ _) [] rfl ⟨rfl,by decide,fun h=>absurd h (Nat.lt_irrefl 0)⟩ (by omega)).mono fun e w' ⟨A,c,h1,_,_,h2⟩=>⟨A,c,h1,h2⟩
 have HM : Hid (makeP [] = ([],0)):=hidF (by unfold makeP sums;simp [grp_nil,nz])
 clear CF hr0
 go_enter Tryz.func7,Tryz.ntmps7
 go_wp2_with (first
  | (go_at_call 37;((with_reducible refine HC.out.mono ?_);rintro e w1 ⟨rfl,hb1⟩))
  | (go_at_call 40;((with_reducible refine (CC.out _).mono ?_);rintro e w2 ⟨A,c,rfl,hb2⟩))
  | (go_at_call 41;((with_reducible refine (sort0 _ _ _).mono ?_);rintro e w3 ⟨rfl,rfl⟩)))
 go_loop [4,5] (fun v4 v5=>v4 = Value.slice A 0 c ∧ v5 = Value.slice none 0 0) (fun _ _=>0)
 case atStart=>exact ⟨rfl,rfl⟩
 case round =>
  obtain ⟨rfl,rfl⟩:=hrel
  go_wp2
  go_ret2
  exact MakeOut.of HM.out (Kd.R_nil _ _ _ _ _) (hb1.trans (hb2.mono hb1.size))
set_option maxRecDepth 1000000 in
set_option maxHeartbeats 16000000 in
theorem make_yes (A0 : Option Addr) (c0 : Nat) (l : List S48) (w : World) (hr : Kd.C k48 w A0 l.length l) (hl : l.length ≤ 1000000) (hl0 : 0 < l.length) (hR : ∀ x ∈ l,rngL x.f0 = true ∧ I64 x.f1) (hok : l.all okE = true) :
    Calls Tryz.prog 7 #[.slice A0 l.length c0] w (MakeOut l w):=by
  have hu:=Tryz.underlying48
  have hu2:=Tryz.underlying58
  have CF:=containsFuncE_c 38 enter_make1 _ make1_c A0 c0 l w hr (fun x hx=>(hR x hx).1)
  rw [any_okE,hok] at CF
  have HC:=hidF CF
  obtain ⟨xs,hxs,hraw⟩:=ents_of hr hR (fun x hx=>by have:=List.all_eq_true.1 hok x hx;unfold okE at this;simp at this;exact this.2)
  have hxl : xs.length = l.length:=by rw [← hxs,List.length_map]
  have FAIR : Hid (∀ ys : List (Ent w),ys.Perm xs → ∀ i,i < ys.length → fair (gx ys i).x.f1 = true):=hidF fun ys hp i hi=>by
    have hm : (gx ys i).x ∈ l:=by rw [← hxs];exact List.mem_map_of_mem (hp.mem_iff.1 (by rw [gx_at ys i hi];exact List.getElem_mem hi))
    have:=List.all_eq_true.1 hok _ hm
    unfold okE at this;simp at this;exact this.1
  have HOK:=hidF hok
  obtain ⟨n,hn⟩ : ∃ n,l.length = n:=⟨_,rfl⟩
  rw [hn] at HC hl hl0 hraw hxl
  have HXS:=hidF hxs
  have HXL:=hidF hxl
  have CC : Hid (∀ W,Below w.heap.size w W → Calls Tryz.prog 40 #[.slice A0 n c0] W fun e w'=>∃ b c,e = .returned (.slice (some ⟨b,0,none⟩) n c) ∧ n ≤ c ∧ SB w b xs w' ∧ Below W.heap.size W w'):=hidF fun W hW =>
    (cloneEnt_c (w0:=w) A0 c0 n W hW xs hxl (Kd.C_below hraw hW) hl).mono fun e w' ⟨A,c,h1,h2,h3,h4⟩=>by
      obtain ⟨b,rfl,h5⟩:=h3 hl0
      exact ⟨b,c,h1,h2,h5,h4⟩
  rw [hn]
  clear CF hok hr hR hn hraw hxs hxl
  go_enter Tryz.func7,Tryz.ntmps7
  go_wp2_with (first
    | (go_at_call 37;((with_reducible refine HC.out.mono ?_);rintro e w1 ⟨rfl,hb1⟩;have HB1:=hidF hb1;clear hb1))
    | (go_at_call 40;((with_reducible refine (CC.out _ HB1.out).mono ?_);rintro e w2 ⟨b,c,rfl,hc,hsb,hb2⟩;have HC2:=hidF hc;have HS2:=hidF hsb;clear hc hsb hb2))
    | (go_at_call 41;((with_reducible refine (sort_c b c xs n HXL.out _ HS2.out hl).mono ?_);rintro e w3 ⟨rfl,ys,k1,k2,k3⟩;have HS3:=hidF k1;have HQ:=hidF (sums_of l xs ys n HXS.out HXL.out k2 k3);have HF:=hidF (FAIR.out ys k3.perm);have HYL:=hidF (k3.len.trans HXL.out);clear k1 k2 k3)))
  clear HS2 FAIR HXS HXL HC CC HB1
  have hcn:=HC2.out
  have hw3:=HS3.out.bel.size
  go_loopw [4,5] (fun v4 v5 wr=>∃ (o cp : Nat) (A : Option Addr) (zs : List S48),v4 = Value.slice A (n - o) cp ∧ o ≤ n ∧ n - o ≤ cp ∧ Hid (o < n → A = some ⟨b,o * 2,none⟩) ∧ Hid (SB w b ys wr) ∧ Hid (Kd.R k48 48 wr w.heap.size (fun k=>k ≠ b) v5 zs) ∧ Hid (∃ done,Mk (sums cT (l.map prE)) (ys.map Ent.pr) o zs done)) (fun v4 _ _=>match v4 with | .slice _ m _=>m | _=>0)
  case atStart=>exact ⟨0,c,some ⟨b,0,none⟩,[],rfl,by omega,by omega,hidF (fun _=>rfl),HS3,hidF (Kd.R_nil _ _ _ _ _),hidF ⟨[],by rw [← HQ.out];exact Mk.start _⟩⟩
  case round =>
    clear HS3
    obtain ⟨W0,rfl⟩ : ∃ W0,W0 = wr:=⟨_,rfl⟩
    obtain ⟨o,cp,A,zs,rfl,hon,hcp,HA,HB,HZ,HG⟩:=hrel
    by_cases hlt : o < n
    · obtain rfl : A = some ⟨b,o * 2,none⟩:=HA.out hlt
      clear HA
      obtain ⟨m,hm⟩ : ∃ m,n - o = m:=⟨_,rfl⟩
      have hom : o + m = n:=by omega
      have hm0 : 0 < m:=by omega
      rw [hm] at hcp
      rw [hm]
      have hyl:=HYL.out
      have ho : o < ys.length:=by omega
      obtain ⟨p,hp⟩ : ∃ p,o * 2 = p:=⟨_,rfl⟩
      rw [hp]
      obtain ⟨xo,hxo⟩ : ∃ x,gx ys o = x:=⟨_,rfl⟩
      have gm1 : decide (0 < m) = true:=decide_eq_true hm0
      have gm2 : decide ((0 : Int) < (m : Int)) = true:=decide_eq_true (by omega)
      have HOM:=hidF hom
      have HP:=hidF hp
      have HXO:=hidF hxo
      have HYL2:=hidF hyl
      clear hom hm hp hxo hyl
      go_wp2
      go_loopw [7] (fun v7 w2=>∃ (k : Nat) (s : Int),v7 = Value.int .i64 k ∧ k ≤ m ∧ Hid (Below W0.heap.size W0 w2) ∧ Hid (w2.heap[W0.heap.size]? = some (.cells #[.int .i64 (s / 18446744073709551616),.int .u64 (s % 18446744073709551616)] 58 (0,0))) ∧ Hid (Gr (ys.map Ent.pr) o k xo.x.f0 s)) (fun v7 _=>m - natOf v7)
      case atStart=>exact ⟨0,0,rfl,by omega,hidF ((Below.refl _ _).alloc (Nat.le_refl _) _),hidF (heap_alloc_new W0 _),hidF (Gr.start _ _ _)⟩
      case round =>
        obtain ⟨w2,rfl⟩ : ∃ w2,w2 = wr:=⟨_,rfl⟩
        obtain ⟨k,s,rfl,hkm,HW,HSm,HGr⟩:=hrel
        have HB2:=hidF (HB.out.below HW.out)
        have hom:=HOM.out
        have hp:=HP.out
        have hxo:=HXO.out
        have hyl:=HYL2.out
        have hC0 : Below w2.heap.size w2 { w2 with drawn:=w2.drawn + 1 }:=(Below.refl _ _).drew
        have gk0 : 0 ≤ (k : Int):=by omega
        by_cases hcont : k < m ∧ cT xo.x.f0 (gx ys (o + k)).x.f0 = 0
        · obtain ⟨hkm2,hcc⟩:=hcont
          have hok1 : o + k < ys.length:=by omega
          obtain ⟨xk,hxk⟩ : ∃ x,gx ys (o + k) = x:=⟨_,rfl⟩
          rw [hxk] at hcc
          obtain ⟨pk,hpk'⟩ : ∃ q,p + k * 2 = q:=⟨_,rfl⟩
          have hpk : (o + k) * 2 = p + k * 2:=by omega
          have hd1 : decide ((k : Int) < (m : Int)) = true:=decide_eq_true (by omega)
          have hd2 : decide (k < m) = true:=decide_eq_true hkm2
          have hd3 : (k : Int) < (m : Int):=by omega
          rw [← Ent.cfT] at hcc
          have hcd1 : (Ent.cf xo xk == 0) = true:=by rw [hcc];rfl
          have hcd2 : decide (Ent.cf xo xk = 0) = true:=decide_eq_true hcc
          have HCC:=hidF hcc
          clear hcc hpk'
          go_wp2_with fail
          refine zregion (C:=fun W=>Below w2.heap.size w2 W) (by kernel_rfl) (by kernel_rfl) hC0 ?_
          clear hC0
          repeat (first
            | go_big_quiet_skip
            | (go_big_quiet_want;first
                | (go_big_quiet_op;go_big_quiet_on)
                | (apply Exists.intro
                   refine ⟨fun w' hw'=>?_, ?_⟩
                   · (have HC:=Lib.hid hw'
                      have hsb:=HB2.out.below hw'
                      have HSBB:=hidF hsb
                      have i0:=hsb.c0 o ho
                      have i1:=hsb.c1 o ho
                      have j0:=hsb.c0 (o + k) hok1
                      have j1:=hsb.c1 (o + k) hok1
                      rw [hxo,hp] at i0 i1
                      rw [hxk,hpk] at j0 j1
                      clear hw' hsb
                      go_simp
                      first
                        | exact rfl
                        | ((with_reducible refine (byRow_c _ _ _ HSBB.out.bel).mono ?_);rintro e w'' ⟨rfl,hb⟩;exact ⟨rfl,HC.out.trans (hb.mono HC.out.size)⟩))
                   go_simp
                   go_big_quiet_on)))
          refine wpQuiet_nil ?_
          intro w3' hw3'
          have HW3:=hidF hw3'
          clear hw3'
          obtain ⟨sh,hsh⟩ : ∃ q,s / 18446744073709551616 = q:=⟨_,rfl⟩
          obtain ⟨sl,hsl⟩ : ∃ q,s % 18446744073709551616 = q:=⟨_,rfl⟩
          obtain ⟨th,hth⟩ : ∃ q,(s + xk.x.f1) / 18446744073709551616 = q:=⟨_,rfl⟩
          obtain ⟨tl,htl⟩ : ∃ q,(s + xk.x.f1) % 18446744073709551616 = q:=⟨_,rfl⟩
          have hlo:=HGr.out.lo
          have hhi:=HGr.out.hi
          have HADD:=hidF (fun W=>add_c s xk.x.f1 sh sl th tl hsh hsl hth htl (by omega) xk.fair W)
          have HG3 : Hid (w3'.heap[W0.heap.size]? = some (.cells #[.int .i64 sh,.int .u64 sl] 58 (0,0))):=hidF (by rw [← hsh,← hsl];exact (HW3.out.block _ (heap_lt HSm.out)).trans HSm.out)
          have HGr2 : Hid (Gr (ys.map Ent.pr) o (k + 1) xo.x.f0 (s + xk.x.f1)):=hidF (HGr.out.step xk.pr (by rw [← hxk];exact pr_get ys _ hok1) (by rw [← HCC.out,Ent.cfT];rfl) (by have:=HF.out (o + k) hok1;rw [hxk] at this;exact this))
          have HTH:=hidF hth
          have HTL:=hidF htl
          have HB3:=hidF (HB2.out.below HW3.out)
          have j1:=HB3.out.c1 (o + k) hok1
          rw [hxk,hpk] at j1
          have s0 : w3'.cell? ⟨W0.heap.size,0,none⟩ = some (.int .i64 sh):=(blk_cell HG3.out 0).trans rfl
          have s1 : w3'.cell? ⟨W0.heap.size,1,none⟩ = some (.int .u64 sl):=(blk_cell HG3.out 1).trans rfl
          have sf0:=blk_frozen HG3.out 0
          have sf1:=blk_frozen HG3.out 1
          have hgl:=heap_lt HG3.out
          have hbl:=HB3.out.lt
          have v9 : IntKind.i64.wrap ((k : Int) + 1) = ((k + 1 : Nat) : Int):=by clear hsh hsl hth htl;rw [IntKind.wrap_i64];omega
          clear hsh hsl hth htl hlo hhi hom hp hxo hyl hpk hcd1 hcd2
          go_wp2_with fail
          go_region_with (go_at_call 43;((with_reducible refine (HADD.out _).mono ?_);rintro e w4 ⟨rfl,hb4⟩;have HB4:=hidF (below_undrew' hb4);have HG4:=hidF ((HB4.out.block _ hgl).trans HG3.out);have s40 : w4.cell? ⟨W0.heap.size,0,none⟩ = some (.int .i64 sh):=(blk_cell HG4.out 0).trans rfl;have s41 : w4.cell? ⟨W0.heap.size,1,none⟩ = some (.int .u64 sl):=(blk_cell HG4.out 1).trans rfl;have sf40:=blk_frozen HG4.out 0;have sf41:=blk_frozen HG4.out 1;have hgl4:=heap_lt HG4.out;clear hb4))
          all_goals
            go_wp2
            go_roundw
            case rel=>exact ⟨k + 1,s + xk.x.f1,by go_num,by omega,hidF (((HW.out.trans ((HW3.out.trans (HB4.out.mono HW3.out.size)).mono HW.out.size)).setCell (Nat.le_refl _) _).setCell (Nat.le_refl _) _),hidF (by rw [HTH.out,HTL.out];exact blk_put (cs:=#[.int .i64 th,.int .u64 sl]) (blk_put (cs:=#[.int .i64 sh,.int .u64 sl]) HG4.out 0 _ rfl) 1 _ rfl),HGr2⟩
            case measure=>simp [natOf];omega
        · have HE : Hid (o + k = (ys.map Ent.pr).length ∨ ∃ z,(ys.map Ent.pr)[o + k]? = some z ∧ cT xo.pr.1 z.1 ≠ 0):=hidF (by
            by_cases h : k < m
            · refine .inr ⟨_,pr_get ys (o + k) (by omega),fun e=>hcont ⟨h,e⟩⟩
            · refine .inl ?_
              rw [List.length_map];omega)
          have HX : Hid (xo.pr = (xo.x.f0,xo.x.f1)):=hidF rfl
          clear hcont
          obtain ⟨sh,hsh⟩ : ∃ q,s / 18446744073709551616 = q:=⟨_,rfl⟩
          obtain ⟨sl,hsl⟩ : ∃ q,s % 18446744073709551616 = q:=⟨_,rfl⟩
          have hlo:=HGr.out.lo
          have hhi:=HGr.out.hi
          have HWT:=hidF (fun W=>weight_c s sh sl hsh hsl (by omega) W)
          have HG2 : Hid (w2.heap[W0.heap.size]? = some (.cells #[.int .i64 sh,.int .u64 sl] 58 (0,0))):=hidF (by rw [← hsh,← hsl];exact HSm.out)
          have HMS : Hid (∀ zs' : List S48,∀ done,Mk (sums cT (l.map prE)) (ys.map Ent.pr) o zs' done → sums cT (l.map prE) = done ++ (xo.x.f0,s) :: grp cT ((ys.map Ent.pr).drop (o + k)) ∧ 1 ≤ k):=hidF fun zs' done hd=>hd.step (x:=xo.pr) HGr.out (by rw [← hxo];exact pr_get ys o (by omega)) HE.out
          have HK1 : Hid (1 ≤ k):=hidF (by obtain ⟨done,hd⟩:=HG.out;exact (HMS.out zs done hd).2)
          clear hsh hsl hlo hhi hyl
          by_cases hkm2 : k < m
          · have hok1 : o + k < ys.length:=by have:=HYL2.out;omega
            obtain ⟨xk,hxk⟩ : ∃ x,gx ys (o + k) = x:=⟨_,rfl⟩
            have hpk : (o + k) * 2 = p + k * 2:=by omega
            have hd1 : decide ((k : Int) < (m : Int)) = true:=decide_eq_true (by omega)
            have hd2 : decide (k < m) = true:=decide_eq_true hkm2
            have hd3 : (k : Int) < (m : Int):=by omega
            have hcc : Ent.cf xo xk ≠ 0:=by
              rcases HE.out with e | ⟨z,hz,en⟩
              · rw [List.length_map] at e;omega
              · rw [pr_get ys _ hok1,hxk] at hz
                cases hz
                rw [Ent.cfT];exact en
            have hcd1 : (Ent.cf xo xk == 0) = false:=beq_eq_false_iff_ne.2 hcc
            have hcd2 : decide (Ent.cf xo xk = 0) = false:=decide_eq_false hcc
            clear hcc
            go_wp2_with fail
            refine zregion (C:=fun W=>Below w2.heap.size w2 W) (by kernel_rfl) (by kernel_rfl) hC0 ?_
            clear hC0
            repeat (first
              | go_big_quiet_skip
              | (go_big_quiet_want;first
                  | (go_big_quiet_op;go_big_quiet_on)
                  | (apply Exists.intro
                     refine ⟨fun w' hw'=>?_, ?_⟩
                     · (have HC:=Lib.hid hw'
                        have hsb:=HB2.out.below hw'
                        have HSBB:=hidF hsb
                        have i0:=hsb.c0 o ho
                        have i1:=hsb.c1 o ho
                        have j0:=hsb.c0 (o + k) hok1
                        have j1:=hsb.c1 (o + k) hok1
                        rw [hxo,hp] at i0 i1
                        rw [hxk,hpk] at j0 j1
                        clear hw' hsb
                        go_simp
                        first
                          | exact rfl
                          | ((with_reducible refine (byRow_c _ _ _ HSBB.out.bel).mono ?_);rintro e w'' ⟨rfl,hb⟩;exact ⟨rfl,HC.out.trans (hb.mono HC.out.size)⟩))
                     go_simp
                     go_big_quiet_on)))
            refine wpQuiet_nil ?_
            intro w3' hw3'
            have HW3:=hidF hw3'
            clear hw3'
            clear hcd1 hcd2 hd1 hd2 hd3 hxk hpk hok1
            clear hom hp hxo
            have HG3 : Hid (w3'.heap[W0.heap.size]? = some (.cells #[.int .i64 sh,.int .u64 sl] 58 (0,0))):=hidF ((HW3.out.block _ (heap_lt HG2.out)).trans HG2.out)
            have s0 : w3'.cell? ⟨W0.heap.size,0,none⟩ = some (.int .i64 sh):=(blk_cell HG3.out 0).trans rfl
            have s1 : w3'.cell? ⟨W0.heap.size,1,none⟩ = some (.int .u64 sl):=(blk_cell HG3.out 1).trans rfl
            have hgl:=heap_lt HG3.out
            have HB03:=hidF (HW.out.trans (HW3.out.mono HW.out.size))
            have HBs3:=hidF (HB2.out.below HW3.out)
            cases hfr : fair s
            · have HM : Hid (makeP l = ([],11)):=hidF (by obtain ⟨done,hd⟩:=HG.out;exact Mk.over HOK.out (HMS.out zs done hd) hfr)
              have HWT2 : Hid (∀ W,Calls Tryz.prog 44 #[.agg #[.int .i64 sh,.int .u64 sl]] W fun e w'=>∃ r,e = .returned (.tuple #[.int .i64 r,.bool false]) ∧ Below W.heap.size W w'):=hidF fun W=>by
                have:=HWT.out W;rw [hfr] at this
                exact this.mono fun e w' ⟨r,h1,_,h2⟩=>⟨r,h1,h2⟩
              clear hfr HWT
              go_wp2_with (go_at_call 44;((with_reducible refine (HWT2.out _).mono ?_);rintro e w5 ⟨r,rfl,hb5⟩;have HB5:=hidF hb5;clear hb5))
              go_ret2
              exact MakeOut.of HM.out (Kd.R_nil _ _ _ _ _) (HBs3.out.bel.trans (HB5.out.mono HBs3.out.bel.size))
            · have HFR:=hidF hfr
              have HWT2 : Hid (∀ W,Calls Tryz.prog 44 #[.agg #[.int .i64 sh,.int .u64 sl]] W fun e w'=>e = .returned (.tuple #[.int .i64 s,.bool true]) ∧ Below W.heap.size W w'):=hidF fun W=>by
                have:=HWT.out W;rw [hfr] at this
                exact this.mono fun e w' ⟨r,h1,h2,h3⟩=>⟨by rw [h1,h2 rfl],h3⟩
              clear hfr HWT
              have hkl : (k : Int) ≤ (m : Int):=by omega
              have hkc : (k : Int) ≤ (cp : Int):=by omega
              have HZL : Hid (zs.length ≤ 1000000):=hidF (by obtain ⟨done,hd⟩:=HG.out;have:=hd.zlen;omega)
              by_cases hcap : k = cp
              · exfalso;omega
              · have hcapD : decide (k = cp) = false:=decide_eq_false hcap
                have hkcI : (k : Int) < (cp : Int):=by omega
                have HM2 : Hid (∃ done,Mk (sums cT (l.map prE)) (ys.map Ent.pr) (o + k) (if s = 0 then zs else zs ++ [⟨xo.x.f0,s⟩]) done):=hidF (by obtain ⟨done,hd⟩:=HG.out;exact ⟨_,Mk.take hd (HMS.out zs done hd) HFR.out⟩)
                by_cases hs0 : s = 0
                · rw [if_pos hs0] at HM2
                  have hsb : (s != 0) = false:=by rw [hs0];rfl
                  have hsb2 : decide (s = 0) = true:=decide_eq_true hs0
                  have HZ0:=hidF hs0
                  clear hs0
                  go_wp2_with (go_at_call 44;((with_reducible refine (HWT2.out _).mono ?_);rintro e w5 ⟨rfl,hb5⟩;have HB5:=hidF hb5;clear hb5))
                  have HB05:=hidF (HB03.out.trans (HB5.out.mono HB03.out.size))
                  go_roundw
                  case rel=>exact ⟨o + k,_,_,zs,by rw [show n - (o + k) = m - k by have:=HOM.out;omega],by have:=HOM.out;omega,by have:=HOM.out;omega,hidF (fun hlt2=>by rw [show (o + k) * 2 = p + k * 2 by have:=HP.out;omega]),hidF (HB.out.below HB05.out),hidF (Kd.R_below HZ.out HB05.out),HM2⟩
                  case measure=>have:=HK1.out;show m - k < m;omega
                · rw [if_neg hs0] at HM2
                  have hsb : (s != 0) = true:=bne_iff_ne.2 hs0
                  have hsb2 : decide (s = 0) = false:=decide_eq_false hs0
                  have HZ0:=hidF hs0
                  clear hs0
                  go_wp2_with (first
                    | (go_at_call 44;((with_reducible refine (HWT2.out _).mono ?_);rintro e w5 ⟨rfl,hb5⟩;have HB5:=hidF hb5;clear hb5;have HB05:=hidF (HB03.out.trans (HB5.out.mono HB03.out.size));have HS5:=hidF (HB.out.below HB05.out);have hsz5:=HS5.out.lt;have i05:=HS5.out.c0 o ho;rw [HXO.out,HP.out] at i05;have HZ5:=hidF (Kd.R_below HZ.out HB05.out)))
                    | (go_at_call 45;((with_reducible refine (cloneRow_c _ _ xo.x.f0 _ (Kd.C_below xo.lies HS5.out.bel) (row_len xo.snd)).mono ?_);rintro e w6 ⟨v6,rfl,ho6,hb6⟩;have HO6:=hidF ho6;have HB6:=hidF hb6;clear ho6 hb6;have HS6:=hidF (HS5.out.below HB6.out);have HZ6:=hidF (Kd.R_below HZ5.out HB6.out);obtain ⟨A6,c6,e6⟩:=Kd.R_slice HO6.out;subst e6))
                    | ((with_reducible refine gate_builtin (b:=.append) (xs:=#[.tmp 52,.tmp 60]) rfl ?_);at_builtin;refine Kd.R_append k48 (w0:=w) w.heap.size rfl (.tmp 52) (.tmp 60) 26 48 (.agg #[(.slice none 0 0),(.int .i64 0)]) 32 rfl Tryz.underlying26 infoE rfl (by decide) (by omega) u5 zs (⟨xo.x.f0,s⟩ : S48) [.slice A6 xo.x.f0.length c6,.int .i64 s] (fun k=>k ≠ b) (fun k=>k ≠ b ∧ some k ≠ (u5 : Value).ownBlock) rfl rfl ?aP (fun _ hk=>hk) ?aF ?aO ?aB ?aS ?aL ?_;(case aP=>exact k48_mkM _ _ _ (⟨xo.x.f0,s⟩ : S48) (Kd.R_lower (Kd.R_mono (Kd.R_bound HO6.out) (fun k hk=>⟨fun e=>by have:=hk.2.1;omega,fun e=>by have:=Kd.R_lt HZ5.out k e.symm;have:=hk.2.1;omega⟩)) HS5.out.bel.size));(case aB=>exact HS6.out.bel);(case aF=>exact fun k hk e=>by have:=HS6.out.lt;omega);(case aO=>exact HZ6.out);(case aS=>exact HS6.out.bel.size);(case aL=>have hzl:=HZL.out;omega);intro v7 w7 ho7 hb7 hg7 hat7;have HO7:=hidF ho7;have HB7:=hidF hb7;have HS7:=hidF (HS6.out.grown hb7 hg7 (fun e=>(HZ6.out.1 b e.symm) rfl));clear ho7 hb7 hg7 hat7))
                  go_roundw
                  case rel=>exact ⟨o + k,_,_,zs ++ [⟨xo.x.f0,s⟩],by rw [show n - (o + k) = m - k by have:=HOM.out;omega],by have:=HOM.out;omega,by have:=HOM.out;omega,hidF (fun hlt2=>by rw [show (o + k) * 2 = p + k * 2 by have:=HP.out;omega]),HS7,HO7,HM2⟩
                  case measure=>have:=HK1.out;show m - k < m;omega
          · have hd1 : decide ((k : Int) < (m : Int)) = false:=decide_eq_false (by omega)
            have hd2 : decide (k < m) = false:=decide_eq_false hkm2
            have hd3 : ¬ (k : Int) < (m : Int):=by omega
            go_wp2_with fail
            refine zregion (C:=fun W=>Below w2.heap.size w2 W) (by kernel_rfl) (by kernel_rfl) hC0 ?_
            clear hC0
            repeat (first
              | go_big_quiet_skip
              | (go_big_quiet_want;first
                  | (go_big_quiet_op;go_big_quiet_on)
                  | (apply Exists.intro
                     refine ⟨fun w' hw'=>?_, ?_⟩
                     · (have HC:=Lib.hid hw'
                        have hsb:=HB2.out.below hw'
                        have HSBB:=hidF hsb
                        have i0:=hsb.c0 o ho
                        have i1:=hsb.c1 o ho
                        rw [hxo,hp] at i0 i1
                        clear hw' hsb
                        go_simp
                        first
                          | exact rfl
                          | ((with_reducible refine (byRow_c _ _ _ HSBB.out.bel).mono ?_);rintro e w'' ⟨rfl,hb⟩;exact ⟨rfl,HC.out.trans (hb.mono HC.out.size)⟩))
                     go_simp
                     go_big_quiet_on)))
            refine wpQuiet_nil ?_
            intro w3' hw3'
            have HW3:=hidF hw3'
            clear hw3'
            clear hom hp hxo hd1 hd2 hd3
            have HG3 : Hid (w3'.heap[W0.heap.size]? = some (.cells #[.int .i64 sh,.int .u64 sl] 58 (0,0))):=hidF ((HW3.out.block _ (heap_lt HG2.out)).trans HG2.out)
            have s0 : w3'.cell? ⟨W0.heap.size,0,none⟩ = some (.int .i64 sh):=(blk_cell HG3.out 0).trans rfl
            have s1 : w3'.cell? ⟨W0.heap.size,1,none⟩ = some (.int .u64 sl):=(blk_cell HG3.out 1).trans rfl
            have hgl:=heap_lt HG3.out
            have HB03:=hidF (HW.out.trans (HW3.out.mono HW.out.size))
            have HBs3:=hidF (HB2.out.below HW3.out)
            cases hfr : fair s
            · have HM : Hid (makeP l = ([],11)):=hidF (by obtain ⟨done,hd⟩:=HG.out;exact Mk.over HOK.out (HMS.out zs done hd) hfr)
              have HWT2 : Hid (∀ W,Calls Tryz.prog 44 #[.agg #[.int .i64 sh,.int .u64 sl]] W fun e w'=>∃ r,e = .returned (.tuple #[.int .i64 r,.bool false]) ∧ Below W.heap.size W w'):=hidF fun W=>by
                have:=HWT.out W;rw [hfr] at this
                exact this.mono fun e w' ⟨r,h1,_,h2⟩=>⟨r,h1,h2⟩
              clear hfr HWT
              go_wp2_with (go_at_call 44;((with_reducible refine (HWT2.out _).mono ?_);rintro e w5 ⟨r,rfl,hb5⟩;have HB5:=hidF hb5;clear hb5))
              go_ret2
              exact MakeOut.of HM.out (Kd.R_nil _ _ _ _ _) (HBs3.out.bel.trans (HB5.out.mono HBs3.out.bel.size))
            · have HFR:=hidF hfr
              have HWT2 : Hid (∀ W,Calls Tryz.prog 44 #[.agg #[.int .i64 sh,.int .u64 sl]] W fun e w'=>e = .returned (.tuple #[.int .i64 s,.bool true]) ∧ Below W.heap.size W w'):=hidF fun W=>by
                have:=HWT.out W;rw [hfr] at this
                exact this.mono fun e w' ⟨r,h1,h2,h3⟩=>⟨by rw [h1,h2 rfl],h3⟩
              clear hfr HWT
              have hkl : (k : Int) ≤ (m : Int):=by omega
              have hkc : (k : Int) ≤ (cp : Int):=by omega
              have HZL : Hid (zs.length ≤ 1000000):=hidF (by obtain ⟨done,hd⟩:=HG.out;have:=hd.zlen;omega)
              by_cases hcap : k = cp
              · subst hcap
                have HM2 : Hid (∃ done,Mk (sums cT (l.map prE)) (ys.map Ent.pr) (o + k) (if s = 0 then zs else zs ++ [⟨xo.x.f0,s⟩]) done):=hidF (by obtain ⟨done,hd⟩:=HG.out;exact ⟨_,Mk.take hd (HMS.out zs done hd) HFR.out⟩)
                by_cases hs0 : s = 0
                · rw [if_pos hs0] at HM2
                  have hsb : (s != 0) = false:=by rw [hs0];rfl
                  have hsb2 : decide (s = 0) = true:=decide_eq_true hs0
                  have HZ0:=hidF hs0
                  clear hs0
                  go_wp2_with (go_at_call 44;((with_reducible refine (HWT2.out _).mono ?_);rintro e w5 ⟨rfl,hb5⟩;have HB5:=hidF hb5;clear hb5))
                  have HB05:=hidF (HB03.out.trans (HB5.out.mono HB03.out.size))
                  go_roundw
                  case rel=>exact ⟨o + k,_,_,zs,by rw [show n - (o + k) = 0 by have:=HOM.out;omega],by have:=HOM.out;omega,by have:=HOM.out;omega,hidF (fun hlt2=>by exfalso;have:=HOM.out;omega),hidF (HB.out.below HB05.out),hidF (Kd.R_below HZ.out HB05.out),HM2⟩
                  case measure=>have:=HK1.out;first | (show m - k < m;omega) | (show 0 < m;omega)
                · rw [if_neg hs0] at HM2
                  have hsb : (s != 0) = true:=bne_iff_ne.2 hs0
                  have hsb2 : decide (s = 0) = false:=decide_eq_false hs0
                  have HZ0:=hidF hs0
                  clear hs0
                  go_wp2_with (first
                    | (go_at_call 44;((with_reducible refine (HWT2.out _).mono ?_);rintro e w5 ⟨rfl,hb5⟩;have HB5:=hidF hb5;clear hb5;have HB05:=hidF (HB03.out.trans (HB5.out.mono HB03.out.size));have HS5:=hidF (HB.out.below HB05.out);have hsz5:=HS5.out.lt;have i05:=HS5.out.c0 o ho;rw [HXO.out,HP.out] at i05;have HZ5:=hidF (Kd.R_below HZ.out HB05.out)))
                    | (go_at_call 45;((with_reducible refine (cloneRow_c _ _ xo.x.f0 _ (Kd.C_below xo.lies HS5.out.bel) (row_len xo.snd)).mono ?_);rintro e w6 ⟨v6,rfl,ho6,hb6⟩;have HO6:=hidF ho6;have HB6:=hidF hb6;clear ho6 hb6;have HS6:=hidF (HS5.out.below HB6.out);have HZ6:=hidF (Kd.R_below HZ5.out HB6.out);obtain ⟨A6,c6,e6⟩:=Kd.R_slice HO6.out;subst e6))
                    | ((with_reducible refine gate_builtin (b:=.append) (xs:=#[.tmp 52,.tmp 60]) rfl ?_);at_builtin;refine Kd.R_append k48 (w0:=w) w.heap.size rfl (.tmp 52) (.tmp 60) 26 48 (.agg #[(.slice none 0 0),(.int .i64 0)]) 32 rfl Tryz.underlying26 infoE rfl (by decide) (by omega) u5 zs (⟨xo.x.f0,s⟩ : S48) [.slice A6 xo.x.f0.length c6,.int .i64 s] (fun k=>k ≠ b) (fun k=>k ≠ b ∧ some k ≠ (u5 : Value).ownBlock) rfl rfl ?aP (fun _ hk=>hk) ?aF ?aO ?aB ?aS ?aL ?_;(case aP=>exact k48_mkM _ _ _ (⟨xo.x.f0,s⟩ : S48) (Kd.R_lower (Kd.R_mono (Kd.R_bound HO6.out) (fun k hk=>⟨fun e=>by have:=hk.2.1;omega,fun e=>by have:=Kd.R_lt HZ5.out k e.symm;have:=hk.2.1;omega⟩)) HS5.out.bel.size));(case aB=>exact HS6.out.bel);(case aF=>exact fun k hk e=>by have:=HS6.out.lt;omega);(case aO=>exact HZ6.out);(case aS=>exact HS6.out.bel.size);(case aL=>have hzl:=HZL.out;omega);intro v7 w7 ho7 hb7 hg7 hat7;have HO7:=hidF ho7;have HB7:=hidF hb7;have HS7:=hidF (HS6.out.grown hb7 hg7 (fun e=>(HZ6.out.1 b e.symm) rfl));clear ho7 hb7 hg7 hat7))
                  go_roundw
                  case rel=>exact ⟨o + k,_,_,zs ++ [⟨xo.x.f0,s⟩],by rw [show n - (o + k) = 0 by have:=HOM.out;omega],by have:=HOM.out;omega,by have:=HOM.out;omega,hidF (fun hlt2=>by exfalso;have:=HOM.out;omega),HS7,HO7,HM2⟩
                  case measure=>have:=HK1.out;first | (show m - k < m;omega) | (show 0 < m;omega)
              · have hcapD : decide (k = cp) = false:=decide_eq_false hcap
                have hkcI : (k : Int) < (cp : Int):=by omega
                have HM2 : Hid (∃ done,Mk (sums cT (l.map prE)) (ys.map Ent.pr) (o + k) (if s = 0 then zs else zs ++ [⟨xo.x.f0,s⟩]) done):=hidF (by obtain ⟨done,hd⟩:=HG.out;exact ⟨_,Mk.take hd (HMS.out zs done hd) HFR.out⟩)
                by_cases hs0 : s = 0
                · rw [if_pos hs0] at HM2
                  have hsb : (s != 0) = false:=by rw [hs0];rfl
                  have hsb2 : decide (s = 0) = true:=decide_eq_true hs0
                  have HZ0:=hidF hs0
                  clear hs0
                  go_wp2_with (go_at_call 44;((with_reducible refine (HWT2.out _).mono ?_);rintro e w5 ⟨rfl,hb5⟩;have HB5:=hidF hb5;clear hb5))
                  have HB05:=hidF (HB03.out.trans (HB5.out.mono HB03.out.size))
                  go_roundw
                  case rel=>exact ⟨o + k,_,_,zs,by rw [show n - (o + k) = m - k by have:=HOM.out;omega],by have:=HOM.out;omega,by have:=HOM.out;omega,hidF (fun hlt2=>by rw [show (o + k) * 2 = p + k * 2 by have:=HP.out;omega]),hidF (HB.out.below HB05.out),hidF (Kd.R_below HZ.out HB05.out),HM2⟩
                  case measure=>have:=HK1.out;show m - k < m;omega
                · rw [if_neg hs0] at HM2
                  have hsb : (s != 0) = true:=bne_iff_ne.2 hs0
                  have hsb2 : decide (s = 0) = false:=decide_eq_false hs0
                  have HZ0:=hidF hs0
                  clear hs0
                  go_wp2_with (first
                    | (go_at_call 44;((with_reducible refine (HWT2.out _).mono ?_);rintro e w5 ⟨rfl,hb5⟩;have HB5:=hidF hb5;clear hb5;have HB05:=hidF (HB03.out.trans (HB5.out.mono HB03.out.size));have HS5:=hidF (HB.out.below HB05.out);have hsz5:=HS5.out.lt;have i05:=HS5.out.c0 o ho;rw [HXO.out,HP.out] at i05;have HZ5:=hidF (Kd.R_below HZ.out HB05.out)))
                    | (go_at_call 45;((with_reducible refine (cloneRow_c _ _ xo.x.f0 _ (Kd.C_below xo.lies HS5.out.bel) (row_len xo.snd)).mono ?_);rintro e w6 ⟨v6,rfl,ho6,hb6⟩;have HO6:=hidF ho6;have HB6:=hidF hb6;clear ho6 hb6;have HS6:=hidF (HS5.out.below HB6.out);have HZ6:=hidF (Kd.R_below HZ5.out HB6.out);obtain ⟨A6,c6,e6⟩:=Kd.R_slice HO6.out;subst e6))
                    | ((with_reducible refine gate_builtin (b:=.append) (xs:=#[.tmp 52,.tmp 60]) rfl ?_);at_builtin;refine Kd.R_append k48 (w0:=w) w.heap.size rfl (.tmp 52) (.tmp 60) 26 48 (.agg #[(.slice none 0 0),(.int .i64 0)]) 32 rfl Tryz.underlying26 infoE rfl (by decide) (by omega) u5 zs (⟨xo.x.f0,s⟩ : S48) [.slice A6 xo.x.f0.length c6,.int .i64 s] (fun k=>k ≠ b) (fun k=>k ≠ b ∧ some k ≠ (u5 : Value).ownBlock) rfl rfl ?aP (fun _ hk=>hk) ?aF ?aO ?aB ?aS ?aL ?_;(case aP=>exact k48_mkM _ _ _ (⟨xo.x.f0,s⟩ : S48) (Kd.R_lower (Kd.R_mono (Kd.R_bound HO6.out) (fun k hk=>⟨fun e=>by have:=hk.2.1;omega,fun e=>by have:=Kd.R_lt HZ5.out k e.symm;have:=hk.2.1;omega⟩)) HS5.out.bel.size));(case aB=>exact HS6.out.bel);(case aF=>exact fun k hk e=>by have:=HS6.out.lt;omega);(case aO=>exact HZ6.out);(case aS=>exact HS6.out.bel.size);(case aL=>have hzl:=HZL.out;omega);intro v7 w7 ho7 hb7 hg7 hat7;have HO7:=hidF ho7;have HB7:=hidF hb7;have HS7:=hidF (HS6.out.grown hb7 hg7 (fun e=>(HZ6.out.1 b e.symm) rfl));clear ho7 hb7 hg7 hat7))
                  go_roundw
                  case rel=>exact ⟨o + k,_,_,zs ++ [⟨xo.x.f0,s⟩],by rw [show n - (o + k) = m - k by have:=HOM.out;omega],by have:=HOM.out;omega,by have:=HOM.out;omega,hidF (fun hlt2=>by rw [show (o + k) * 2 = p + k * 2 by have:=HP.out;omega]),HS7,HO7,HM2⟩
                  case measure=>have:=HK1.out;show m - k < m;omega
    · have hno : n - o = 0:=by omega
      rw [hno]
      have HM : Hid (makeP l = (zs,0)):=hidF (by
        obtain ⟨done,hd⟩:=HG.out
        exact Mk.done HOK.out hd (by rw [List.length_map];have:=HYL.out;omega))
      go_wp2
      go_ret2
      exact MakeOut.of HM.out (Kd.R_mono HZ.out (fun _ _=>trivial)) HB.out.bel
theorem make_c (A0 : Option Addr) (c0 : Nat) (l : List S48) (w : World) (hr : Kd.C k48 w A0 l.length l) (hl : l.length ≤ 1000000) (hR : ∀ x ∈ l,rngL x.f0 = true ∧ I64 x.f1) :
  Calls Tryz.prog 7 #[.slice A0 l.length c0] w (MakeOut l w):=by
 cases hok : l.all okE
 ·exact make_no A0 c0 l w hr hR hok
 ·rcases Nat.eq_zero_or_pos l.length with h0 | h0
  ·obtain rfl:=List.eq_nil_of_length_eq_zero h0
   exact make_nil A0 c0 w
  ·exact make_yes A0 c0 l w hr hl h0 hR hok
end Go.Proofs.YthpkjkcfhipjhaaGreatDoor
end
section
namespace Go.Proofs.YthpkjkcfhipjhaaGreatDoor
set_option linter.unusedVariables false
set_option linter.unusedSimpArgs false
open Go.RowKit Go.Proofs.YthpkjkcfhipjhaaGreatDoorW.PrintWords Go.Proofs.YthpkjkcfhipjhaaGreatDoorW.PrintLast PRW PZA
def GrownE (w : World) (e : Ending) (w' : World) : Prop:=∃ v,e = .returned v ∧ Kd.R kRaw2 48 w' w.heap.size (fun _=>True) v [] ∧ Below w.heap.size w w'
set_option maxRecDepth 100000 in
set_option maxHeartbeats 4000000 in
theorem grow0_c (w : World) : Calls Tryz.prog 80 #[.slice none 0 0,.int .i64 0] w (GrownE w):=by
 go_enter Tryz.func80,Tryz.ntmps80
 go_wp2
 go_ret
 exact ⟨_,rfl,Kd.R_nil _ _ _ _ _,Below.refl _ _⟩
set_option maxRecDepth 100000 in
set_option maxHeartbeats 4000000 in
theorem grow1_c (n : Nat) (h0 : 0 < n) (hn : n ≤ 4000000) (w : World) : Calls Tryz.prog 80 #[.slice none 0 0,.int .i64 n] w (GrownE w):=by
 obtain ⟨i0,hi,hz⟩:=Option.map_eq_some_iff.1 infoE
 simp only [Prod.mk.injEq] at hz
 obtain ⟨hz0,hz1,hz2⟩:=hz
 have h1 : ¬ ((n : Int) < 0):=by omega
 have h4 : (n : Int) > 0:=by omega
 have h5 : (0 : Int) < n:=by omega
 obtain ⟨G,hG⟩ : ∃ G,G = grownCap w n 0 48:=⟨_,rfl⟩
 have hGn : n ≤ G:=by rw [hG];exact grownCap_ge w _ _ _
 have hG63 : G ≤ 9223372036854775807:=by
  have:=grownCap_le_maxLen w n 0 48 (by unfold maxLen;omega)
  rw [← hG] at this
  unfold maxLen at this
  omega
 have hrz : ∀ ty,(Builtin.append_ #[26,3] ty #[.slice none 0 0,.int .i64 (n : Int)]).run Tryz.prog w =
   .ok (.slice (some ⟨w.heap.size,0,none⟩) n G) (w.drew.alloc (.cells (#[] ++ Builtin.zeroCells (Value.agg #[.slice none 0 0,.int .i64 0]).cells n ++ Builtin.zeroCells (Value.agg #[.slice none 0 0,.int .i64 0]).cells (G - n)) 48)):=fun ty=>by
  have h:=Lib.run_append_grow_zeros w 26 3 ty 48 i0 (.agg #[.slice none 0 0,.int .i64 0]) .i64 .i64 Tryz.underlying26 Tryz.underlying3 hi hz0 none 0 0 [] (run_firstCells_none w.drew i0.size 0 0 0) n h0 (by rw [hz1];decide) (by omega) (by omega) (by rw [hz2];omega)
   (growslice_fits (by omega) (by rw [hz2];omega))
  rw [Nat.zero_add,← hG] at h
  exact h
 have HG:=hidF hG
 clear hG hi hz0 hz1 hz2
 obtain ⟨M,hM⟩ : ∃ M,M = #[] ++ Builtin.zeroCells (Value.agg #[.slice none 0 0,.int .i64 0]).cells n ++ Builtin.zeroCells (Value.agg #[.slice none 0 0,.int .i64 0]).cells (G - n):=⟨_,rfl⟩
 have HM : Hid (M.size = G * 2):=hidF (by
  rw [hM]
  simp [Builtin.zeroCells,Value.cells]
  omega)
 rw [← hM] at hrz
 clear hM
 go_enter Tryz.func80,Tryz.ntmps80
 go_wp2_with (at_builtin;refine Lib.wpList_append_run _ rfl _ _ _ _ rfl _ _ rfl rfl _ _ (hrz _) ?_)
 go_ret
 refine ⟨_,rfl,⟨fun _ _=>trivial,[], ?_,Reps.none _ _⟩,(Below.refl _ _).drew.alloc (by simp) _⟩
 refine ⟨rfl,.inr ⟨w.heap.size,G,M,rfl,Nat.le_refl _,heap_alloc_new w.drew _,Nat.zero_le _,by unfold maxLen;omega,HM.out,by simp⟩⟩
theorem grow_c (n : Nat) (hn : n ≤ 4000000) (w : World) : Calls Tryz.prog 80 #[.slice none 0 0,.int .i64 n] w (GrownE w):=by
 rcases Nat.eq_zero_or_pos n with h | h
 ·subst h;exact grow0_c w
 ·exact grow1_c n h hn w
end Go.Proofs.YthpkjkcfhipjhaaGreatDoor
end
section
namespace Go.Proofs.YthpkjkcfhipjhaaGreatDoor
set_option linter.unusedVariables false
set_option linter.unusedSimpArgs false
open Go.RowKit Go.Proofs.YthpkjkcfhipjhaaGreatDoorW.PrintWords Go.Proofs.YthpkjkcfhipjhaaGreatDoorW.PrintLast PRW PZA
theorem raws_of {W : World} {A : Option Addr} {l : List S48} (hC : Kd.C k48 W A l.length l) :
  ∃ Y : List (CellV × CellV),Y.length = l.length ∧ Kd.C kRaw2 W A l.length Y ∧ ∀ (i : Nat) (x : S48) (p : CellV × CellV),l[i]? = some x → Y[i]? = some p → k48.K W x [p.1.val,p.2.val]:=by
 obtain ⟨h1,h2,h3⟩:=hC
 rcases Nat.eq_zero_or_pos l.length with h0 | h0
 ·obtain rfl:=List.eq_nil_of_length_eq_zero h0
  exact ⟨[],rfl,⟨rfl,h2,fun h=>absurd h (by simp)⟩,fun i x p hx=>by simp at hx⟩
 ·obtain ⟨ad,rfl,hc⟩:=h3 h0
  haveI : Inhabited (CellV × CellV):=⟨(⟨.int .i64 0,rfl⟩,⟨.int .i64 0,rfl⟩)⟩
  have key : ∀ i,i < l.length → ∃ p : CellV × CellV,(∀ x,l[i]? = some x → k48.K W x [p.1.val,p.2.val]) ∧ ∀ j u,[p.1.val,p.2.val][j]? = some u → W.cell? (ad.add (i * 2 + j)) = some u:=by
   intro i hi
   have hg:=List.getElem?_eq_getElem hi
   obtain ⟨c,_,hK,hcell⟩:=hc i _ hg
   obtain ⟨A0,c0,rfl,hle,hK0⟩:=k48_open hK
   refine ⟨(⟨.slice A0 l[i].f0.length c0,rfl⟩,⟨.int .i64 l[i].f1,rfl⟩),fun x hx=>?_,hcell⟩
   rw [hg] at hx
   cases hx
   exact hK
  obtain ⟨F,hF⟩:=choose_ltE key
  refine ⟨(List.range l.length).map F,by simp,⟨by simp,h2,fun _=>⟨ad,rfl,fun j p hj=>?_⟩⟩,fun i x p hx hp=>?_⟩
  ·have hjl : j < l.length:=by
    have:=(List.getElem?_eq_some_iff.1 hj).1
    simpa using this
   have : p = F j:=by simpa [hjl] using hj.symm
   subst this
   exact ⟨_,rfl,kRaw2_mk _ _,(hF j hjl).2⟩
  ·have hil : i < l.length:=(List.getElem?_eq_some_iff.1 hx).1
   have : p = F i:=by simpa [hil] using hp.symm
   subst this
   exact (hF i hil).1 x hx
theorem C_of_raws {W : World} {A : Option Addr} {l : List S48} {Y : List (CellV × CellV)} (h : Kd.C kRaw2 W A l.length Y) (hY : Y.length = l.length) (hK : ∀ (i : Nat) (x : S48) (p : CellV × CellV),l[i]? = some x → Y[i]? = some p → k48.K W x [p.1.val,p.2.val]) : Kd.C k48 W A l.length l:=by
 obtain ⟨h1,h2,h3⟩:=h
 refine ⟨rfl,h2,fun h0=>?_⟩
 obtain ⟨ad,e,hc⟩:=h3 h0
 refine ⟨ad,e,fun j x hx=>?_⟩
 have hj : j < Y.length:=by rw [hY];exact (List.getElem?_eq_some_iff.1 hx).1
 obtain ⟨c,hs,hp,hcell⟩:=hc j _ (List.getElem?_eq_getElem hj)
 obtain rfl : c = [Y[j].1.val,Y[j].2.val]:=kRaw2_M (w:=W) (base:=0) (ok:=fun _=>True) (kRaw2_KM hp)
 exact ⟨_,rfl,hK j x _ hx (List.getElem?_eq_getElem hj),hcell⟩
def Rel1 (n0 n : Nat) (v3 v11 : Value) : Prop:=(v11 = .int .i64 0 ∧ v3 = .int .i64 0) ∨ (v11 = .int .i64 1 ∧ v3 = .int .i64 n0) ∨ (v11 = .int .i64 2 ∧ v3 = .int .i64 n)
def Rel2 (Y0 Y1 : List (CellV × CellV)) (v27 : Value) (X : List (CellV × CellV)) : Prop:=(v27 = .int .i64 0 ∧ X = []) ∨ (v27 = .int .i64 1 ∧ X = Y0) ∨ (v27 = .int .i64 2 ∧ X = Y0 ++ Y1)
def ConcOut (Y : List (CellV × CellV)) (w : World) (e : Ending) (w' : World) : Prop:=∃ v,e = .returned v ∧ Kd.R kRaw2 48 w' w.heap.size (fun _=>True) v Y ∧ Below w.heap.size w w'
set_option maxRecDepth 100000 in
set_option maxHeartbeats 8000000 in
theorem concat_c (h : Nat) (A0 A1 : Option Addr) (n0 c0 n1 c1 : Nat) (Y0 Y1 : List (CellV × CellV)) (w : World) (e0 : w.cell? ⟨h,0,none⟩ = some (.slice A0 n0 c0)) (e1 : w.cell? ⟨h,1,none⟩ = some (.slice A1 n1 c1))
  (hn0 : n0 ≤ 1000000) (hn1 : n1 ≤ 1000000) (r0 : Kd.C kRaw2 w A0 n0 Y0) (r1 : Kd.C kRaw2 w A1 n1 Y1) :
  Calls Tryz.prog 55 #[.slice (some ⟨h,0,none⟩) 2 2] w (ConcOut (Y0 ++ Y1) w):=by
 have hh:=World.block_lt_of_cell? w _ e0
 have HR0:=hidF r0
 have HR1:=hidF r1
 have HE0:=hidF e0
 have HE1:=hidF e1
 have hl0:=hidF r0.1
 have hl1:=hidF r1.1
 obtain ⟨n,hn⟩ : ∃ n,n0 + n1 = n:=⟨_,rfl⟩
 have q1 : IntKind.i64.wrap ((n0 : Int) + (n1 : Int)) = (n : Int):=by rw [IntKind.wrap_i64];omega
 have q2 : ¬ (n0 : Int) < 0:=by omega
 have q3 : ¬ (n : Int) < 0:=by omega
 have GR:=hidF (fun W=>grow_c n (by omega) W)
 clear r0 r1 hn
 go_enter Tryz.func55,Tryz.ntmps55
 go_wp2
 go_loop [3,11] (fun v3 v11=>Hid (Rel1 n0 n v3 v11)) (fun _ v11=>2 - natOf v11)
 case atStart=>exact hidF (.inl ⟨rfl,rfl⟩)
 case round =>
  rcases hrel.out with ⟨rfl,rfl⟩ | ⟨rfl,rfl⟩ | ⟨rfl,rfl⟩
  ·clear hrel
   go_wp2
   go_round
   case rel=>exact hidF (.inr (.inl ⟨rfl,rfl⟩))
   case measure=>simp [natOf]
  ·clear hrel
   go_wp2
   go_round
   case rel=>exact hidF (.inr (.inr ⟨rfl,rfl⟩))
   case measure=>simp [natOf]
  ·clear hrel
   go_wp2_with (go_at_call 80;((with_reducible refine (GR.out _).mono ?_);rintro e w1 ⟨v,rfl,ho,hb⟩;have HO:=hidF ho;have HB:=hidF hb;clear ho hb e0 e1))
   go_loopw [6,27] (fun v6 v27 wr=>∃ X,Hid (Rel2 Y0 Y1 v27 X) ∧ Hid (Kd.R kRaw2 48 wr w.heap.size (fun _=>True) v6 X) ∧ Hid (Below w.heap.size w wr)) (fun _ v27 _=>2 - natOf v27)
   case atStart=>exact ⟨[],hidF (.inl ⟨rfl,rfl⟩),HO,HB⟩
   case round =>
    clear HO HB
    obtain ⟨X,HX,HO,HB⟩:=hrel
    have e0:=(HB.out.cell (p:=⟨h,0,none⟩) hh).trans HE0.out
    have e1:=(HB.out.cell (p:=⟨h,1,none⟩) hh).trans HE1.out
    rcases HX.out with ⟨rfl,hX⟩ | ⟨rfl,hX⟩ | ⟨rfl,hX⟩
    all_goals (have HOO:=HO.out;rw [hX] at HOO;have HO2_:=hidF HOO;clear HOO hX HO;have HO:=HO2_;clear HO2_)
    ·clear HX
     go_wp2_with ((with_reducible refine gate_dst (N:=33) rfl ?_);refine Kd.R_append_rows kRaw2 (Rr:=kRaw2.K wr) (w0:=w) w.heap.size rfl (.tmp 31) (.tmp 32) 26 48 (.agg #[(.slice none 0 0),(.int .i64 0)]) 32 rfl Tryz.underlying26 infoE rfl (by decide) (by omega) u6 [] Y0 _ _ _ (fun _=>True) (fun _=>False) rfl rfl ?aO ?aR (fun _ _ h=>kRaw2_KM h) (fun _ h=>h.elim) ?aF ?aB ?aS ?aL ?_;(case aO=>exact HO.out);(case aR=>exact Kd.C_below HR0.out HB.out);(case aF=>exact fun _ _=>trivial);(case aB=>exact HB.out);(case aS=>exact HB.out.size);(case aL=>simp;omega);intro v2 w2 ho2 hb2 hg2 hn2;clear hg2 hn2;have HO2:=hidF ho2;have HB2:=hidF hb2;clear ho2 hb2)
     go_roundw
     case rel=>exact ⟨_,hidF (.inr (.inl ⟨rfl,List.nil_append _⟩)),HO2,HB2⟩
     case measure=>simp [natOf]
    ·clear HX
     go_wp2_with ((with_reducible refine gate_dst (N:=33) rfl ?_);refine Kd.R_append_rows kRaw2 (Rr:=kRaw2.K wr) (w0:=w) w.heap.size rfl (.tmp 31) (.tmp 32) 26 48 (.agg #[(.slice none 0 0),(.int .i64 0)]) 32 rfl Tryz.underlying26 infoE rfl (by decide) (by omega) u6 Y0 Y1 _ _ _ (fun _=>True) (fun _=>False) rfl rfl ?aO ?aR (fun _ _ h=>kRaw2_KM h) (fun _ h=>h.elim) ?aF ?aB ?aS ?aL ?_;(case aO=>exact HO.out);(case aR=>exact Kd.C_below HR1.out HB.out);(case aF=>exact fun _ _=>trivial);(case aB=>exact HB.out);(case aS=>exact HB.out.size);(case aL=>rw [hl0.out];omega);intro v2 w2 ho2 hb2 hg2 hn2;clear hg2 hn2;have HO2:=hidF ho2;have HB2:=hidF hb2;clear ho2 hb2)
     go_roundw
     case rel=>exact ⟨_,hidF (.inr (.inr ⟨rfl,rfl⟩)),HO2,HB2⟩
     case measure=>simp [natOf]
    ·clear HX
     go_wp2
     go_ret
     exact ⟨_,rfl,HO.out,HB.out⟩
/-- what Add answers -/
def addP (l0 l1 : List S48) : List S48 × Int:=if soundZ l0 && soundZ l1 then makeP (l0 ++ l1) else ([],1)
def AddOut (l0 l1 : List S48) (w : World) (e : Ending) (w' : World) : Prop :=
 ∃ v0,e = .returned (.tuple #[v0,.int .i64 (addP l0 l1).2]) ∧ Kd.R k48 48 w' w.heap.size (fun _=>True) v0 (addP l0 l1).1 ∧ Below w.heap.size w w'
theorem AddOut.of {l0 l1 : List S48} {w w' : World} {v0 : Value} {r1 : List S48} {r2 : Int} (h : addP l0 l1 = (r1,r2)) (hR : Kd.R k48 48 w' w.heap.size (fun _=>True) v0 r1) (hb : Below w.heap.size w w') : AddOut l0 l1 w (.returned (.tuple #[v0,.int .i64 r2])) w' :=
 ⟨v0,by rw [h],by rw [h];exact hR,hb⟩
set_option maxRecDepth 100000 in
set_option maxHeartbeats 8000000 in
theorem add_z (A0 : Option Addr) (c0 : Nat) (l0 : List S48) (A1 : Option Addr) (c1 : Nat) (l1 : List S48) (w : World) (hr0 : Kd.C k48 w A0 l0.length l0) (hc0 : l0.length ≤ c0) (hr1 : Kd.C k48 w A1 l1.length l1) (hc1 : l1.length ≤ c1)
  (h0 : ∀ x ∈ l0,rngL x.f0 = true ∧ I64 x.f1) (h1 : ∀ x ∈ l1,rngL x.f0 = true ∧ I64 x.f1) (hl0 : l0.length ≤ 500000) (hl1 : l1.length ≤ 500000) :
  Calls Tryz.prog 18 #[.slice A0 l0.length c0,.slice A1 l1.length c1] w (AddOut l0 l1 w):=by
 have S0:=hidF (fun W (hb : Below w.heap.size w W)=>zSound_c A0 c0 l0 W (Kd.C_below hr0 hb) hc0 (fun x hx=>(h0 x hx).1) (by omega))
 have S1:=hidF (fun W (hb : Below w.heap.size w W)=>zSound_c A1 c1 l1 W (Kd.C_below hr1 hb) hc1 (fun x hx=>(h1 x hx).1) (by omega))
 obtain ⟨Y0,y0,R0,K0⟩:=raws_of hr0
 obtain ⟨Y1,y1,R1,K1⟩:=raws_of hr1
 have hR0:=hidF R0
 have hR1:=hidF R1
 have MK : Hid (∀ (W : World) (v : Value),Below w.heap.size w W → Kd.R kRaw2 48 W w.heap.size (fun _=>True) v (Y0 ++ Y1) → ∃ A c,v = .slice A (l0 ++ l1).length c ∧ Calls Tryz.prog 7 #[.slice A (l0 ++ l1).length c] W (MakeOut (l0 ++ l1) W)):=hidF fun W v hb hR=>by
  obtain ⟨A,c,rfl,hle,hC⟩:=Kd.R_reads hR
  have hlen : (Y0 ++ Y1).length = (l0 ++ l1).length:=by rw [List.length_append,List.length_append,y0,y1]
  rw [hlen] at hC ⊢
  refine ⟨A,c,rfl,make_c A c (l0 ++ l1) W (C_of_raws hC hlen fun i x p hx hp=>?_) (by rw [List.length_append];omega) (fun x hx=>?_)⟩
  ·by_cases hi : i < l0.length
   ·rw [List.getElem?_append_left hi] at hx
    rw [List.getElem?_append_left (by omega)] at hp
    exact k48.K_below hb (K0 i x p hx hp)
   ·rw [List.getElem?_append_right (by omega)] at hx
    rw [List.getElem?_append_right (by omega),y0] at hp
    exact k48.K_below hb (K1 _ x p hx hp)
  ·rcases List.mem_append.1 hx with hx | hx
   ·exact h0 x hx
   ·exact h1 x hx
 have HB:=hidF (Below.refl w.heap.size w)
 obtain ⟨n0,hn0⟩ : ∃ n,l0.length = n:=⟨_,rfl⟩
 obtain ⟨n1,hn1⟩ : ∃ n,l1.length = n:=⟨_,rfl⟩
 rw [hn0] at hR0 S0 hl0 hc0 ⊢
 rw [hn1] at hR1 S1 hl1 hc1 ⊢
 clear hr0 hr1 h0 h1 R0 R1 K0 K1 y0 y1 hn0 hn1
 cases s0 : soundZ l0
 ·have HA : Hid (addP l0 l1 = ([],1)):=hidF (by unfold addP;rw [s0];rfl)
  rw [s0] at S0
  clear s0
  go_enter Tryz.func18,Tryz.ntmps18
  go_wp2_with (go_at_call 12;((with_reducible refine (S0.out _ (Below.refl _ _)).mono ?_);rintro e w1 ⟨rfl,hb⟩))
  go_ret2
  exact AddOut.of HA.out (Kd.R_nil _ _ _ _ _) hb
 ·cases s1 : soundZ l1
  ·have HA : Hid (addP l0 l1 = ([],1)):=hidF (by unfold addP;rw [s0,s1];rfl)
   rw [s0] at S0
   rw [s1] at S1
   clear s0 s1
   go_enter Tryz.func18,Tryz.ntmps18
   go_wp2_with (first
    | (go_at_call 12;(fail_if_success (have:=w1));((with_reducible refine (S0.out _ HB.out).mono ?_);rintro e w1 ⟨rfl,hb⟩;have HB1:=hidF hb;clear hb))
    | (go_at_call 12;((with_reducible refine (S1.out _ HB1.out).mono ?_);rintro e w2 ⟨rfl,hb⟩;have HB2:=hidF (HB1.out.trans (hb.mono HB1.out.size));clear hb)))
   go_ret2
   exact AddOut.of HA.out (Kd.R_nil _ _ _ _ _) HB2.out
  ·have HA : Hid (addP l0 l1 = makeP (l0 ++ l1)):=hidF (by unfold addP;rw [s0,s1];rfl)
   rw [s0] at S0
   rw [s1] at S1
   clear s0 s1
   go_enter Tryz.func18,Tryz.ntmps18
   go_wp2_with (first
    | (go_at_call 12;((with_reducible refine (S0.out _ HB.out).mono ?_);rintro e w1 ⟨rfl,hb⟩;have HB1:=hidF hb;clear hb))
    | (go_at_call 12;((with_reducible refine (S1.out _ HB1.out).mono ?_);rintro e w2 ⟨rfl,hb⟩;have HB2:=hidF (HB1.out.trans (hb.mono HB1.out.size));clear hb)))
   have HB3:=hidF (HB2.out.alloc HB2.out.size (.cells #[.slice A0 n0 c0,.slice A1 n1 c1] 26 (0,0)))
   (with_reducible refine (concat_c _ A0 A1 n0 c0 n1 c1 Y0 Y1 _ ((blk_cell (heap_alloc_new _ _) 0).trans rfl) ((blk_cell (heap_alloc_new _ _) 1).trans rfl) (by omega) (by omega) (Kd.C_below hR0.out HB3.out) (Kd.C_below hR1.out HB3.out)).mono ?_)
   rintro e w4 ⟨v,rfl,hoR,hb4⟩
   obtain ⟨A,c,rfl,hM⟩:=MK.out w4 v (HB3.out.trans (hb4.mono HB3.out.size)) (Kd.R_lower hoR HB3.out.size)
   rw [List.length_append] at hM
   have HM:=hidF hM
   have HB4:=hidF (HB3.out.trans (hb4.mono HB3.out.size))
   clear hM hoR hb4
   go_wp2_with fail
   (with_reducible refine HM.out.mono ?_)
   rintro e w5 ⟨v5,rfl,ho5,hb5⟩
   have HO5:=hidF ho5
   have HB5:=hidF hb5
   clear ho5 hb5
   go_wp2_with fail
   go_ret2
   exact ⟨v5,by rw [HA.out] <;> rfl,by rw [HA.out];exact Kd.R_lower HO5.out HB4.out.size,HB4.out.trans (HB5.out.mono HB4.out.size)⟩
end Go.Proofs.YthpkjkcfhipjhaaGreatDoor
end
section
namespace Go.Proofs.YthpkjkcfhipjhaaGreatDoor
set_option linter.unusedVariables false
set_option linter.unusedSimpArgs false
open Go.RowKit Go.Proofs.YthpkjkcfhipjhaaGreatDoorW.PrintWords Go.Proofs.YthpkjkcfhipjhaaGreatDoorW.PrintLast PRW PZA
theorem weight1_c (x : S48) (A : Option Addr) (c : Nat) (B : Option Addr) (d : Nat) (r : List S64) (w : World) (hC : Kd.C k64 w A x.f0.length x.f0) (hR : Kd.C k64 w B r.length r) (hx : rngL x.f0 = true) (hr : rngL r = true) :
  Calls Tryz.prog 54 #[.agg #[.slice A x.f0.length c,.int .i64 x.f1],.slice B r.length d] w fun e w'=>e = .returned (.int .i64 (cmpLS x.f0 r)) ∧ Below w.heap.size w w':=by
 have HH:=hidF (fun W (hb : Below w.heap.size w W)=>rowCompare_c A B c d x.f0 r W (Kd.C_below hC hb) (Kd.C_below hR hb) (rngL_I hx) (rngL_I hr))
 clear hC hR hx hr
 go_enter Tryz.func54,Tryz.ntmps54
 go_wp2_with (go_at_call 31;((with_reducible refine (HH.out _ (by repeat (first | (with_reducible exact Below.refl _ _) | (with_reducible refine below_al ?_ _) | (with_reducible refine below_drewN ?_ _) | (with_reducible refine Below.drew ?_) | (with_reducible refine below_via (by assumption) ?_) | (with_reducible refine below_sc ?_ ?_ _;· (first | (simp;done) | (simp;omega) | omega))))).mono ?_);rintro e w1 ⟨rfl,hb⟩))
 go_ret
 exact ⟨rfl,(by repeat (first | (with_reducible exact Below.refl _ _) | (with_reducible refine below_al ?_ _) | (with_reducible refine below_drewN ?_ _) | (with_reducible refine Below.drew ?_) | (with_reducible refine below_via (by assumption) ?_) | (with_reducible refine below_sc ?_ ?_ _;· (first | (simp;done) | (simp;omega) | omega))))⟩
theorem enter_weight1 : ∀ args w,(callFunc 54 args).run Tryz.prog w = .ok (.enter 54 args) w:=by
 intro args w
 simp [go_sem,Tryz.func54]
/-- what a search tells -/
def BsOut (l : List S48) (r : List S64) (w : World) (e : Ending) (w' : World) : Prop :=
 ∃ (i : Nat) (b : Bool),e = .returned (.tuple #[.int .i64 i,.bool b]) ∧ (b = true → ∃ x,l[i]? = some x ∧ cT x.f0 r = 0) ∧ (b = false → has cT (l.map prE) r = false) ∧ Below w.heap.size w w'
theorem bs_end {l : List S48} {r : List S64} (hz : Zst cT (l.map prE)) {i : Nat} (hi : i ≤ l.length) (lo : 0 < i → cT (rd_T48 l ((i - 1 : Nat) : Int)).f0 r < 0) (hn : i < l.length → 0 < cT (rd_T48 l (i : Int)).f0 r) : has cT (l.map prE) r = false:=by
 rw [Bool.eq_false_iff]
 intro h
 obtain ⟨y,hy,e⟩:=(has_iff cT _ _).1 h
 obtain ⟨x,hx,rfl⟩:=List.mem_map.1 hy
 obtain ⟨j,hj,rfl⟩:=List.mem_iff_getElem.1 hx
 have e2 : cT l[j].f0 r = 0:=cT_ord.eq_symm e
 rw [Zst,List.pairwise_map,List.pairwise_iff_getElem] at hz
 rcases Nat.lt_trichotomy j i with h1 | h1 | h1
 ·have hi1 : i - 1 < l.length:=by omega
  have h2:=lo (by omega)
  rw [rd_atE l (i - 1) hi1] at h2
  by_cases h3 : j = i - 1
  ·subst h3;omega
  ·have h4 : cT l[j].f0 l[i - 1].f0 < 0:=hz j (i - 1) hj hi1 (by omega)
   have:=cT_ord.lt_tr h4 (by omega : cT l[i - 1].f0 r ≤ 0)
   omega
 ·subst h1
  have:=hn hj
  rw [rd_atE l j hj] at this
  omega
 ·have hi1 : i < l.length:=by omega
  have h2:=hn hi1
  rw [rd_atE l i hi1] at h2
  have h4 : cT l[i].f0 l[j].f0 < 0:=hz i j hi1 hj h1
  have:=cT_ord.lt_tr h4 (by omega : cT l[j].f0 r ≤ 0)
  omega
set_option maxRecDepth 100000 in
set_option maxHeartbeats 8000000 in
theorem bsf_c (A0 : Option Addr) (c0 : Nat) (l : List S48) (B : Option Addr) (d : Nat) (r : List S64) (w : World) (hr : Kd.C k48 w A0 l.length l) (hB : Kd.C k64 w B r.length r) (hl : l.length ≤ 1000000)
  (hI : ∀ x ∈ l,okR x.f0 = true) (hro : okR r = true) (hz : Zst cT (l.map prE)) :
  Calls Tryz.prog 53 #[.slice A0 l.length c0,.slice B r.length d,.func (.func 54) #[] #[]] w (BsOut l r w):=by
 have HR:=hidF hr
 have HI:=hidF hI
 have HZ:=hidF hz
 have HC : Hid (∀ (c : Int),0 ≤ c → c < l.length → ∀ W,Below w.heap.size w W → ∀ A1 c1,Kd.C k64 w A1 (rd_T48 l c).f0.length (rd_T48 l c).f0 → Calls Tryz.prog 54 #[.agg #[.slice A1 (rd_T48 l c).f0.length c1,.int .i64 (rd_T48 l c).f1],.slice B r.length d] W fun e w'=>e = .returned (.int .i64 (cT (rd_T48 l c).f0 r)) ∧ Below W.heap.size W w'):=hidF fun c h0 h1 W hb A1 c1 hC=>by
  have hx:=hI _ (rd_memE l c h0 h1)
  have:=weight1_c (rd_T48 l c) A1 c1 B d r W (Kd.C_below hC hb) (Kd.C_below hB hb) (okR_iff.1 hx).2 (okR_iff.1 hro).2
  rwa [cT_ls hx hro] at this
 clear hr hI hB hro hz
 have hu:=Tryz.underlying48
 have eg:=enter_weight1
 have HWR:=hidF (Below.refl w.heap.size w)
 go_enter Tryz.func53,Tryz.ntmps53
 go_wp2
 go_loopw [9,10] (fun v9 v10 wr=>∃ (i j : Nat),v9 = Value.int .i64 i ∧ v10 = Value.int .i64 j ∧ i ≤ j ∧ j ≤ l.length ∧ Hid (Below w.heap.size w wr) ∧ Hid (0 < i → cT (rd_T48 l ((i - 1 : Nat) : Int)).f0 r < 0) ∧ Hid (j < l.length → 0 ≤ cT (rd_T48 l (j : Int)).f0 r)) (fun v9 v10 _=>natOf v10 - natOf v9)
 case atStart=>exact ⟨0,l.length,rfl,rfl,by omega,by omega,HWR,hidF (fun h=>by omega),hidF (fun h=>by omega)⟩
 case round =>
  obtain ⟨i,j,rfl,rfl,hij,hjl,HB,HL,HH⟩:=hrel
  by_cases hlt : i < j
  ·have hd : decide ((i : Int) < (j : Int)) = true:=decide_eq_true (by omega)
   have g0 : (i : Int) < (j : Int):=by omega
   obtain ⟨ij,hsum⟩ : ∃ s,i + j = s:=⟨_,rfl⟩
   obtain ⟨c,hc⟩ : ∃ c,ij / 2 = c:=⟨_,rfl⟩
   have v1 : IntKind.i64.wrap ((i : Int) + (j : Int)) = (ij : Int):=by rw [IntKind.wrap_i64];omega
   have v2 : IntKind.u64.wrap (ij : Int) = (ij : Int):=by rw [IntKind.wrap_u64];omega
   have v3 : (ij : Int) / 2 = (c : Int):=by omega
   have v4 : IntKind.i64.wrap (c : Int) = (c : Int):=by rw [IntKind.wrap_i64];omega
   have v5 : IntKind.u64.wrap (c : Int) = (c : Int):=by rw [IntKind.wrap_u64];omega
   have v6 : IntKind.i64.wrap ((c : Int) + 1) = ((c + 1 : Nat) : Int):=by rw [IntKind.wrap_i64];omega
   have c1 : c < l.length:=by omega
   have hcj : c < j:=by omega
   have hic : i ≤ c:=by omega
   have c2 : (c : Int) < (l.length : Int):=by omega
   have c3 : 0 ≤ (c : Int):=by omega
   obtain ⟨ad,A1,d1,e,h0,h1,hl1,hC1⟩:=at_T48 HR.out (c : Int) c3 c2
   cases e
   have CS:=hidF (HC.out (c : Int) c3 c2 wr HB.out A1 d1 hC1)
   rw [Int.toNat_natCast] at h0 h1
   replace h0:=(HB.out.cell (World.block_lt_of_cell? w _ h0)).trans h0
   replace h1:=(HB.out.cell (World.block_lt_of_cell? w _ h1)).trans h1
   clear hC1 hsum hc
   obtain ⟨q,hq⟩ : ∃ q,cT (rd_T48 l (c : Int)).f0 r = q:=⟨_,rfl⟩
   rw [hq] at CS
   have HQ:=hidF hq
   clear hq
   by_cases hq0 : q < 0
   ·have hqd : decide (q < 0) = true:=decide_eq_true hq0
    go_wp2_with (go_at_fn 54;((with_reducible refine CS.out.mono ?_);rintro e w1 ⟨rfl,hb⟩;have HB1:=hidF (HB.out.trans (hb.mono HB.out.size));clear hb))
    go_roundw
    case rel=>exact ⟨c + 1,j,rfl,rfl,by omega,hjl,HB1,hidF (fun _=>by rw [Nat.add_sub_cancel,HQ.out];exact hq0),HH⟩
    case measure=>simp [natOf];omega
   ·have hqd : decide (q < 0) = false:=decide_eq_false hq0
    go_wp2_with (go_at_fn 54;((with_reducible refine CS.out.mono ?_);rintro e w1 ⟨rfl,hb⟩;have HB1:=hidF (HB.out.trans (hb.mono HB.out.size));clear hb))
    go_roundw
    case rel=>exact ⟨i,c,rfl,rfl,hic,by omega,HB1,HL,hidF (fun _=>by rw [HQ.out];omega)⟩
    case measure=>simp [natOf];omega
  ·obtain rfl : i = j:=by omega
   have hd : decide ((i : Int) < (i : Int)) = false:=decide_eq_false (by omega)
   by_cases hin : i < l.length
   ·have hd2 : decide ((i : Int) < (l.length : Int)) = true:=decide_eq_true (by omega)
    have hd3 : decide (i < l.length) = true:=decide_eq_true hin
    have c2 : (i : Int) < (l.length : Int):=by omega
    have c3 : 0 ≤ (i : Int):=by omega
    obtain ⟨ad,A1,d1,e,h0,h1,hl1,hC1⟩:=at_T48 HR.out (i : Int) c3 c2
    cases e
    have CS:=hidF (HC.out (i : Int) c3 c2 wr HB.out A1 d1 hC1)
    rw [Int.toNat_natCast] at h0 h1
    replace h0:=(HB.out.cell (World.block_lt_of_cell? w _ h0)).trans h0
    replace h1:=(HB.out.cell (World.block_lt_of_cell? w _ h1)).trans h1
    clear hC1
    obtain ⟨q,hq⟩ : ∃ q,cT (rd_T48 l (i : Int)).f0 r = q:=⟨_,rfl⟩
    rw [hq] at CS
    have HQ:=hidF hq
    clear hq
    by_cases hq0 : q = 0
    ·have hqd : (q == 0) = true:=by rw [hq0];rfl
     have hqd2 : decide (q = 0) = true:=decide_eq_true hq0
     have HF : Hid (BsOut l r w (.returned (.tuple #[.int .i64 i,.bool true])) w):=hidF ⟨i,true,rfl,fun _=>⟨l[i],List.getElem?_eq_getElem hin,by rw [← rd_atE l i hin,HQ.out];exact hq0⟩,(fun h=>by cases h),Below.refl _ _⟩
     clear hq0
     go_wp2_with (go_at_fn 54;((with_reducible refine CS.out.mono ?_);rintro e w1 ⟨rfl,hb⟩;have HB1:=hidF (HB.out.trans (hb.mono HB.out.size));clear hb))
     go_ret2
     obtain ⟨i',b',e1,e2,e3,_⟩:=HF.out
     exact ⟨i',b',e1,e2,e3,HB1.out⟩
    ·have hqd : (q == 0) = false:=beq_eq_false_iff_ne.2 hq0
     have hqd2 : decide (q = 0) = false:=decide_eq_false hq0
     have HF : Hid (BsOut l r w (.returned (.tuple #[.int .i64 i,.bool false])) w):=hidF ⟨i,false,rfl,(fun h=>by cases h),fun _=>bs_end HZ.out (by omega) HL.out (fun h=>by have:=HH.out h;rw [HQ.out] at this ⊢;omega),Below.refl _ _⟩
     clear hq0
     go_wp2_with (go_at_fn 54;((with_reducible refine CS.out.mono ?_);rintro e w1 ⟨rfl,hb⟩;have HB1:=hidF (HB.out.trans (hb.mono HB.out.size));clear hb))
     go_ret2
     obtain ⟨i',b',e1,e2,e3,_⟩:=HF.out
     exact ⟨i',b',e1,e2,e3,HB1.out⟩
   ·have hd2 : decide ((i : Int) < (l.length : Int)) = false:=decide_eq_false (by omega)
    have hd3 : decide (i < l.length) = false:=decide_eq_false hin
    have HF : Hid (BsOut l r w (.returned (.tuple #[.int .i64 i,.bool false])) w):=hidF ⟨i,false,rfl,(fun h=>by cases h),fun _=>bs_end HZ.out (by omega) HL.out (fun h=>absurd h hin),Below.refl _ _⟩
    go_wp2
    go_ret2
    obtain ⟨i',b',e1,e2,e3,_⟩:=HF.out
    exact ⟨i',b',e1,e2,e3,HB.out⟩
/-- a row's weight -/
def weightP (l : List S48) (r : List S64) : Int:=if soundZ l && soundL r then wt cT (l.map prE) r else 0
set_option maxRecDepth 100000 in
set_option maxHeartbeats 8000000 in
theorem weight_z (A0 : Option Addr) (c0 : Nat) (l : List S48) (B : Option Addr) (d : Nat) (r : List S64) (w : World) (hr0 : Kd.C k48 w A0 l.length l) (hc0 : l.length ≤ c0) (hr1 : Kd.C k64 w B r.length r) (hc1 : r.length ≤ d)
  (h0 : ∀ x ∈ l,rngL x.f0 = true) (h1 : rngL r = true) (hl : l.length ≤ 1000000) :
  Calls Tryz.prog 16 #[.slice A0 l.length c0,.slice B r.length d] w fun e w'=>e = .returned (.int .i64 (weightP l r)) ∧ Below w.heap.size w w':=by
 have S0:=hidF (zSound_c A0 c0 l w hr0 hc0 h0 hl)
 have S1:=hidF (fun W (hb : Below w.heap.size w W)=>rowSound_c B d r W (Kd.C_below hr1 hb) (rngL_I h1))
 have HR:=hidF hr0
 cases s0 : soundZ l
 ·have HA : Hid (weightP l r = 0):=hidF (by unfold weightP;rw [s0];rfl)
  rw [s0] at S0
  clear s0 hr0 hr1 h0 h1
  go_enter Tryz.func16,Tryz.ntmps16
  go_wp2_with (go_at_call 12;((with_reducible refine S0.out.mono ?_);rintro e w1 ⟨rfl,hb⟩))
  go_ret
  exact ⟨by rw [HA.out] <;> rfl,hb⟩
 ·cases s1 : soundL r
  ·have HA : Hid (weightP l r = 0):=hidF (by unfold weightP;rw [s0,s1];rfl)
   rw [s0] at S0
   rw [s1] at S1
   clear s0 s1 hr0 hr1 h0 h1
   go_enter Tryz.func16,Tryz.ntmps16
   go_wp2_with (first | (go_at_call 12;((with_reducible refine S0.out.mono ?_);rintro e w1 ⟨rfl,hb⟩;have HB1:=hidF hb;clear hb)) | (go_at_call 29;((with_reducible refine (S1.out _ HB1.out).mono ?_);rintro e w2 ⟨rfl,hb⟩;have HB2:=hidF (HB1.out.trans (hb.mono HB1.out.size));clear hb)))
   go_ret
   exact ⟨by rw [HA.out] <;> rfl,HB2.out⟩
  ·obtain ⟨g1,g2⟩:=(soundZ_iff l h0).1 s0
   have HZ:=hidF g2
   have HA : Hid (weightP l r = wt cT (l.map prE) r):=hidF (by unfold weightP;rw [s0,s1];rfl)
   have BSF:=hidF (fun W (hb : Below w.heap.size w W)=>bsf_c A0 c0 l B d r W (Kd.C_below hr0 hb) (Kd.C_below hr1 hb) hl (fun x hx=>okR_iff.2 ⟨by have:=(g1 x hx).2;unfold okE at this;simp at this;exact this.2,h0 x hx⟩) (okR_iff.2 ⟨s1,h1⟩) g2)
   rw [s0] at S0
   rw [s1] at S1
   clear s0 s1 hr0 hr1 h0 h1 g1 g2
   go_enter Tryz.func16,Tryz.ntmps16
   go_wp2_with (first | (go_at_call 12;((with_reducible refine S0.out.mono ?_);rintro e w1 ⟨rfl,hb⟩;have HB1:=hidF hb;clear hb)) | (go_at_call 29;((with_reducible refine (S1.out _ HB1.out).mono ?_);rintro e w2 ⟨rfl,hb⟩;have HB2:=hidF (HB1.out.trans (hb.mono HB1.out.size));clear hb)))
   (with_reducible refine (BSF.out _ HB2.out).mono ?_)
   rintro e w3 ⟨i,b,rfl,ht,hf,hb⟩
   have HT:=hidF ht
   have HF:=hidF hf
   have HB3:=hidF (HB2.out.trans (hb.mono HB2.out.size))
   clear ht hf hb
   cases b
   ·have HV : Hid (weightP l r = 0):=hidF (by rw [HA.out];exact wt_none cT _ _ (HF.out rfl))
    go_wp2
    go_ret
    exact ⟨by rw [HV.out] <;> rfl,HB3.out⟩
   ·obtain ⟨x,hx,hxr⟩:=HT.out rfl
    obtain ⟨hil,hxe⟩:=List.getElem?_eq_some_iff.1 hx
    have HV : Hid (weightP l r = (rd_T48 l (i : Int)).f1):=hidF (by
     rw [HA.out,← wt_cong cT_ord hxr,rd_atE l i hil,hxe]
     exact HZ.out.wt_mem cT_ord (prE x) (List.mem_map_of_mem (by rw [← hxe];exact List.getElem_mem hil)))
    have c2 : (i : Int) < (l.length : Int):=by omega
    have c3 : 0 ≤ (i : Int):=by omega
    obtain ⟨ad,A1,d1,e,k0,k1,hl1,hC1⟩:=at_T48 HR.out (i : Int) c3 c2
    cases e
    rw [Int.toNat_natCast] at k1
    replace k1:=(HB3.out.cell (World.block_lt_of_cell? w _ k1)).trans k1
    clear hC1 k0 hx hxr hxe
    go_wp2
    go_ret
    exact ⟨by rw [HV.out] <;> rfl,HB3.out⟩
end Go.Proofs.YthpkjkcfhipjhaaGreatDoor
end
section
namespace Go.Proofs.YthpkjkcfhipjhaaGreatDoor
set_option linter.unusedVariables false
set_option linter.unusedSimpArgs false
open Go.RowKit Go.Proofs.YthpkjkcfhipjhaaGreatDoorW.PrintWords Go.Proofs.YthpkjkcfhipjhaaGreatDoorW.PrintLast PRW PZA PZF
theorem TV.below {w0 W W' : World} {v : Value} {T : List (Tot w0)} (h : TV w0 v T W) (k : Below W.heap.size W W') : TV w0 v T W':=⟨h.1.trans (k.mono h.1.size),Kd.R_below h.2 k⟩
theorem rsound3_c (A : Option Addr) (c : Nat) (L : List S64) (W : World) (hC : Kd.C k64 W A L.length L) (hc : L.length ≤ c) (hr : rngL L = true) :
  Calls Tryz.prog 30 #[.slice A L.length c] W fun e w'=>e = .returned (.bool (soundL L)) ∧ Below W.heap.size W w':=by
 obtain ⟨k,hk⟩:=rsound_ev L hr
 exact freshetref02_Sound.calls k A c L _ W hC hc (hk k (Nat.le_refl _))
theorem copied3_c (A : Option Addr) (c : Nat) (L : List S64) (W : World) (hC : Kd.C k64 W A L.length L) (hc : L.length ≤ c) (hl : L.length ≤ 1000000) :
  Calls Tryz.prog 49 #[.slice A L.length c] W fun e w'=>∃ v0,e = .returned v0 ∧ Kd.R k64 64 w' W.heap.size (fun _=>True) v0 L ∧ Below W.heap.size W w' :=
 freshetref03_copied.calls A c L L W hC hc (by unfold freshetref03_copied.f;simp;omega)
theorem all_no {l : List S48} {x : S48} (hx : x ∈ l) (h : okE x = false) : makeP l = ([],1):=by
 unfold makeP
 rw [show l.all okE = false from List.all_eq_false.2 ⟨x,hx,by rw [h];exact Bool.false_ne_true⟩];rfl
theorem nz_snoc (a : List (List S64 × Int)) (p : List S64 × Int) : (nz (a ++ [p])).map unE = (nz a).map unE ++ (if p.2 = 0 then [] else [unE p]):=by
 unfold nz
 rw [List.filter_append,List.map_append]
 by_cases h : p.2 = 0 <;> simp [h]
set_option maxRecDepth 1000000 in
set_option maxHeartbeats 16000000 in
theorem make3_c (A0 : Option Addr) (c0 : Nat) (l : List S48) (w : World) (hr : Kd.C k48 w A0 l.length l) (hl : l.length ≤ 1000) (hR : ∀ x ∈ l,rngL x.f0 = true ∧ I64 x.f1) :
  Calls Tryz.prog 8 #[.slice A0 l.length c0] w (MakeOut l w):=by
 have hu:=Tryz.underlying48
 have hu2:=Tryz.underlying68
 have HR:=hidF hr
 have HRR:=hidF hR
 clear hr hR
 go_enter Tryz.func8,Tryz.ntmps8
 go_wp2_with ((with_reducible refine gate_dst (N:=10) rfl ?_);refine Kd.R_lit kRaw3 _ 68 ?hg (N:=10) ?hd (xs:=([] : List (CellV × CellV × CellV))) (inner:=[]) (ok:=fun _=>True) (okp:=fun _=>True) ?hr ?hp (fun _ hk=>hk) trivial (Below.refl _ _) (Nat.le_refl _) (by simp) ?_;(case hd=>rfl);(case hg=>rfl);(case hr=>first | (go_simp;done) | (go_simp;rfl));(case hp=>exact Reps.none _ _);intro v1 w1 ho1 hb1 hg1 hn1;clear hg1 hn1;have HT0 : Hid (TV w v1 [] w1):=hidF ⟨hb1,ho1⟩;clear ho1 hb1)
 go_loopw [4,5] (fun v4 v5 wr=>∃ (i : Nat) (T : List (Tot w)),v5 = Value.int .i64 i ∧ i ≤ l.length ∧ Hid (TV w v4 T wr) ∧ Hid (Acc (l.take i) T) ∧ Hid ((l.take i).all okE = true)) (fun _ v5 _=>l.length - natOf v5)
 case atStart=>exact ⟨0,[],rfl,by omega,HT0,hidF Acc.start,hidF rfl⟩
 case round =>
  clear HT0
  obtain ⟨W0,rfl⟩ : ∃ W0,W0 = wr:=⟨_,rfl⟩
  obtain ⟨i,T,rfl,hil,HT,HA,HK⟩:=hrel
  by_cases hlt : i < l.length
  ·have hd : decide ((i : Int) < (l.length : Int)) = true:=decide_eq_true (by omega)
   have hdI : (i : Int) < (l.length : Int):=by omega
   have hi0 : (0 : Int) ≤ (i : Int):=by omega
   obtain ⟨ad,A1,d1,e,k0,k1,hl1,hC1⟩:=at_T48 HR.out (i : Int) hi0 hdI
   cases e
   rw [Int.toNat_natCast] at k0 k1
   have HMEM:=hidF (rd_memE l (i : Int) hi0 hdI)
   have HTK : Hid (l.take (i + 1) = l.take i ++ [rd_T48 l (i : Int)]):=hidF (by rw [List.take_succ_eq_append_getElem hlt,rd_atE l i hlt])
   obtain ⟨x,hx⟩ : ∃ x,rd_T48 l (i : Int) = x:=⟨_,rfl⟩
   rw [hx] at HTK k0 k1 hl1 hC1 HMEM
   clear hx
   have K0:=hidF k0
   have K1:=hidF k1
   have HC1:=hidF hC1
   have HL1:=hidF hl1
   have HX:=hidF (HRR.out x HMEM.out)
   replace k0:=(HT.out.1.cell (World.block_lt_of_cell? w _ k0)).trans k0
   replace k1:=(HT.out.1.cell (World.block_lt_of_cell? w _ k1)).trans k1
   have v9 : IntKind.i64.wrap ((i : Int) + 1) = ((i + 1 : Nat) : Int):=by rw [IntKind.wrap_i64];omega
   clear hC1 hl1
   cases hf : fair x.f1
   ·have HM : Hid (makeP l = ([],1)):=hidF (all_no HMEM.out (by unfold okE;rw [hf];rfl))
    go_wp2_with (go_at_call 46;((with_reducible refine (fair3_c x.f1 _).mono ?_);rintro e w2 ⟨rfl,hb2⟩;rw [hf];have HB2:=hidF hb2;clear hb2))
    go_ret2
    exact MakeOut.of HM.out (Kd.R_nil _ _ _ _ _) (HT.out.1.trans (HB2.out.mono HT.out.1.size))
   ·cases hs : soundL x.f0
    ·have HM : Hid (makeP l = ([],1)):=hidF (all_no HMEM.out (by unfold okE;rw [hf,hs];rfl))
     have SND : Hid (∀ W,Below w.heap.size w W → Calls Tryz.prog 30 #[.slice A1 x.f0.length d1] W fun e w'=>e = .returned (.bool false) ∧ Below W.heap.size W w'):=hidF fun W hb=>by
      have:=rsound3_c A1 d1 x.f0 W (Kd.C_below HC1.out hb) HL1.out HX.out.1
      rwa [hs] at this
     clear hs
     go_wp2_with (first
      | (go_at_call 46;((with_reducible refine (fair3_c x.f1 _).mono ?_);rintro e w2 ⟨rfl,hb2⟩;rw [hf];have HB2:=hidF (HT.out.1.trans (hb2.mono HT.out.1.size));clear hb2;replace k0:=(HB2.out.cell (World.block_lt_of_cell? w _ K0.out)).trans K0.out))
      | (go_at_call 30;((with_reducible refine (SND.out _ HB2.out).mono ?_);rintro e w3 ⟨rfl,hb3⟩;have HB3:=hidF (HB2.out.trans (hb3.mono HB2.out.size));clear hb3)))
     go_ret2
     exact MakeOut.of HM.out (Kd.R_nil _ _ _ _ _) HB3.out
    ·have SND : Hid (∀ W,Below w.heap.size w W → Calls Tryz.prog 30 #[.slice A1 x.f0.length d1] W fun e w'=>e = .returned (.bool true) ∧ Below W.heap.size W w'):=hidF fun W hb=>by
      have:=rsound3_c A1 d1 x.f0 W (Kd.C_below HC1.out hb) HL1.out HX.out.1
      rwa [hs] at this
     have PUT : Hid (∀ W,Below W0.heap.size W0 W → Calls Tryz.prog 47 #[u4,.agg #[.slice A1 x.f0.length d1,.int .i64 x.f1]] W fun r w'=>∃ v' T',r = .returned v' ∧ TV w v' T' w' ∧ Acc (l.take i ++ [x]) T'):=hidF fun W hb =>
      put_c u4 T (l.take i) ⟨A1,d1,x,HL1.out,HC1.out,HX.out.1,hs,HX.out.2⟩ W (HT.out.below hb) HA.out (by rw [List.length_take];omega) hf
     have HK2 : Hid ((l.take (i + 1)).all okE = true):=hidF (by rw [HTK.out,List.all_append,HK.out];simp [okE,hf,hs])
     clear hs
     go_wp2_with (first
      | (go_at_call 46;((with_reducible refine (fair3_c x.f1 _).mono ?_);rintro e w2 ⟨rfl,hb2⟩;rw [hf];have HW2:=hidF hb2;have HB2:=hidF (HT.out.1.trans (hb2.mono HT.out.1.size));clear hb2;replace k0:=(HB2.out.cell (World.block_lt_of_cell? w _ K0.out)).trans K0.out))
      | (go_at_call 30;((with_reducible refine (SND.out _ HB2.out).mono ?_);rintro e w3 ⟨rfl,hb3⟩;have HW3:=hidF (HW2.out.trans (hb3.mono HW2.out.size));have HB3:=hidF (HB2.out.trans (hb3.mono HB2.out.size));clear hb3;clear k0 k1;have k0:=(HB3.out.cell (World.block_lt_of_cell? w _ K0.out)).trans K0.out;have k1:=(HB3.out.cell (World.block_lt_of_cell? w _ K1.out)).trans K1.out))
      | (go_at_call 47;((with_reducible refine (PUT.out _ HW3.out).mono ?_);rintro e w4 ⟨v4,T4,rfl,hT4,hA4⟩;have HT4:=hidF hT4;have HA4:=hidF hA4;clear hT4 hA4)))
     go_roundw
     case rel=>exact ⟨i + 1,T4,by go_num,by omega,HT4,hidF (by rw [HTK.out];exact HA4.out),HK2⟩
     case measure=>simp [natOf];omega
  ·have hd : decide ((i : Int) < (l.length : Int)) = false:=decide_eq_false (by omega)
   have hdI : ¬ (i : Int) < (l.length : Int):=by omega
   have hie : i = l.length:=by omega
   have HA2 : Hid (Acc l T):=hidF (by have:=HA.out;rwa [hie,List.take_of_length_le (Nat.le_refl _)] at this)
   have HK2 : Hid (l.all okE = true):=hidF (by have:=HK.out;rwa [hie,List.take_of_length_le (Nat.le_refl _)] at this)
   have HS : Hid (T.map Tot.pr = sums cT (l.map prE)):=hidF (HA2.out.sums (fun x hx=>by
    have:=List.all_eq_true.1 HK2.out x hx
    unfold okE at this;simp at this
    exact okR_iff.2 ⟨this.2,(HRR.out x hx).1⟩))
   clear hie HA HK hlt hil
   obtain ⟨A4,c4,e4,hc4,hg4⟩:=HT.out.tg
   subst e4
   have HG4 : Hid (0 < T.length → ∃ g,A4 = some ⟨g,0,none⟩ ∧ TG w g c4 T W0):=hidF hg4
   have hTl : T.length ≤ 1000:=Nat.le_trans HA2.out.len hl
   have HBW:=hidF HT.out.1
   clear hg4
   go_wp2_with ((with_reducible refine gate_dst (N:=39) rfl ?_);refine Kd.R_lit k48 _ 48 ?hg (N:=39) ?hd (xs:=([] : List S48)) (inner:=[]) (ok:=fun _=>True) (okp:=fun _=>True) ?hr ?hp (fun _ hk=>hk) trivial (Below.refl _ _) (Nat.le_refl _) (by simp) ?_;(case hd=>rfl);(case hg=>rfl);(case hr=>first | (go_simp;done) | (go_simp;rfl));(case hp=>exact Reps.none _ _);intro v6 w6 ho6 hb6 hg6 hn6;clear hg6 hn6;have HO6:=hidF (Kd.R_lower ho6 HBW.out.size);have HB6:=hidF hb6;clear ho6 hb6)
   go_loopw [6,7] (fun v6 v7 wr=>∃ (j : Nat) (zs : List S48),v7 = Value.int .i64 j ∧ j ≤ T.length ∧ Hid (Below w.heap.size w wr) ∧ Hid (0 < T.length → ∃ g,A4 = some ⟨g,0,none⟩ ∧ TG w g c4 T wr) ∧ Hid (Kd.R k48 48 wr w.heap.size (fun _=>True) v6 zs) ∧ Hid (zs = (nz ((T.map Tot.pr).take j)).map unE ∧ zs.length ≤ j) ∧ Hid (((T.map Tot.pr).take j).all (fun p=>fair p.2) = true)) (fun _ v7 _=>T.length - natOf v7)
   case atStart=>exact ⟨0,[],rfl,by omega,hidF (HBW.out.trans (HB6.out.mono HBW.out.size)),hidF (fun h=>by obtain ⟨g,e1,e2⟩:=HG4.out h;exact ⟨g,e1,e2.below HB6.out⟩),HO6,hidF ⟨rfl,Nat.le_refl _⟩,hidF rfl⟩
   case round =>
    clear HB6 HO6
    obtain ⟨W2,rfl⟩ : ∃ W2,W2 = wr:=⟨_,rfl⟩
    obtain ⟨j,zs,rfl,hjl,HB,HG,HZ,HZS,HF⟩:=hrel
    by_cases hlt : j < T.length
    ·have hd2 : decide ((j : Int) < (T.length : Int)) = true:=decide_eq_true (by omega)
     have hdj : (j : Int) < (T.length : Int):=by omega
     have hj0 : (0 : Int) ≤ (j : Int):=by omega
     have v9 : IntKind.i64.wrap ((j : Int) + 1) = ((j + 1 : Nat) : Int):=by rw [IntKind.wrap_i64];omega
     obtain ⟨g,rfl,hTG⟩:=HG.out (by omega)
     have HTG:=hidF hTG
     have i0:=hTG.c0 j hlt
     have i1:=hTG.c1 j hlt
     have i2:=hTG.c2 j hlt
     obtain ⟨t,ht⟩ : ∃ t,gt T j = t:=⟨_,rfl⟩
     rw [ht] at i0 i1 i2
     have HTP:=hidF ht
     have htm : T[j]? = some t:=by rw [List.getElem?_eq_getElem hlt,← gt_at T j hlt,ht]
     have htM:=List.mem_of_getElem? htm
     obtain ⟨q1,q2,q3,q4⟩:=HA2.out.bnd t htM
     have WGT : Hid (∀ W,Calls Tryz.prog 48 #[.agg #[.slice t.A t.x.length t.c,.int .i64 t.hi,.int .i64 t.lo]] W fun e w'=>∃ v,e = .returned (.tuple #[.int .i64 v,.bool (fair t.sum)]) ∧ (fair t.sum = true → v = t.sum) ∧ Below W.heap.size W w') :=
      hidF fun W=>weightT_c t _ _ rfl rfl (by omega) (by omega) (by omega) (by omega) W
     have HPJ : Hid ((T.map Tot.pr).take (j + 1) = (T.map Tot.pr).take j ++ [t.pr]):=hidF (by
      rw [List.take_add_one,List.getElem?_map,htm];rfl)
     have HMEM : Hid (t.pr ∈ sums cT (l.map prE)):=hidF (by rw [← HS.out];exact List.mem_map_of_mem htM)
     clear hTG ht htm htM q1 q2 q3 q4 HG
     by_cases hfr : fair t.sum = true
     ·have HF2 : Hid (((T.map Tot.pr).take (j + 1)).all (fun p=>fair p.2) = true):=hidF (by rw [HPJ.out,List.all_append,HF.out];simp [Tot.pr,hfr])
      by_cases hz : t.sum = 0
      ·have WG : Hid (∀ W,Calls Tryz.prog 48 #[.agg #[.slice t.A t.x.length t.c,.int .i64 t.hi,.int .i64 t.lo]] W fun e w'=>e = .returned (.tuple #[.int .i64 0,.bool true]) ∧ Below W.heap.size W w') :=
        hidF fun W=>(WGT.out W).mono fun e w' ⟨v,h1,h2,h3⟩=>⟨by rw [h1,h2 hfr,hz];rw [hz] at hfr;rw [hfr],h3⟩
       have HZ0 : Hid (zs = (nz ((T.map Tot.pr).take (j + 1))).map unE ∧ zs.length ≤ j + 1):=hidF ⟨by rw [HPJ.out,nz_snoc,← HZS.out.1,if_pos (show t.pr.2 = 0 from hz),List.append_nil],by have:=HZS.out.2;omega⟩
       clear WGT hz hfr
       go_wp2_with (go_at_call 48;((with_reducible refine (WG.out _).mono ?_);rintro e w3 ⟨rfl,hb3⟩;have HW3:=hidF hb3;clear hb3))
       go_roundw
       case rel=>exact ⟨j + 1,zs,by go_num,by omega,hidF (HB.out.trans (HW3.out.mono HB.out.size)),hidF (fun _=>⟨g,rfl,HTG.out.below HW3.out⟩),hidF (Kd.R_below HZ.out HW3.out),HZ0,HF2⟩
       case measure=>simp [natOf];omega
      ·obtain ⟨sm,hsm⟩ : ∃ sm,t.sum = sm:=⟨_,rfl⟩
       have WG : Hid (∀ W,Calls Tryz.prog 48 #[.agg #[.slice t.A t.x.length t.c,.int .i64 t.hi,.int .i64 t.lo]] W fun e w'=>e = .returned (.tuple #[.int .i64 sm,.bool true]) ∧ Below W.heap.size W w') :=
        hidF fun W=>(WGT.out W).mono fun e w' ⟨v,h1,h2,h3⟩=>⟨by rw [h1,h2 hfr,hsm];rw [hsm] at hfr;rw [hfr],h3⟩
       have HZ0 : Hid (zs ++ [⟨t.x,sm⟩] = (nz ((T.map Tot.pr).take (j + 1))).map unE ∧ (zs ++ [(⟨t.x,sm⟩ : S48)]).length ≤ j + 1):=hidF ⟨by rw [HPJ.out,nz_snoc,← HZS.out.1,if_neg (show ¬ t.pr.2 = 0 from hz)];rw [← hsm];rfl,by have:=HZS.out.2;simp;omega⟩
       rw [hsm] at hz
       have n1 : (sm != 0) = true:=bne_iff_ne.2 hz
       have n2 : decide (sm = 0) = false:=decide_eq_false hz
       have n3 : (sm == 0) = false:=beq_eq_false_iff_ne.2 hz
       have HXL : Hid (t.x.length ≤ 1000000):=hidF (by have:=t.snd;rw [soundL_iff] at this;simp at this;omega)
       have hzl:=HZS.out.2
       clear WGT hsm hfr
       go_wp2_with (first
        | (go_at_call 48;((with_reducible refine (WG.out _).mono ?_);rintro e w3 ⟨rfl,hb3⟩;have HB3:=hidF (HB.out.trans (hb3.mono HB.out.size));have HTG3:=hidF (HTG.out.below hb3);have HZ3:=hidF (Kd.R_below HZ.out hb3);clear hb3 i0 i1 i2;have i0:=HTG3.out.c0 j hlt;rw [HTP.out] at i0))
        | (go_at_call 49;((with_reducible refine (copied3_c t.A t.c t.x _ (Kd.C_below t.lies HB3.out) t.le HXL.out).mono ?_);rintro e w4 ⟨v3,rfl,ho3,hb4⟩;have HO3:=hidF ho3;have HW4:=hidF hb4;have HB4:=hidF (HB3.out.trans (hb4.mono HB3.out.size));clear ho3 hb4;obtain ⟨A3,c3,e3⟩:=Kd.R_slice HO3.out;subst e3))
        | ((with_reducible refine gate_builtin (b:=.append) (xs:=#[.tmp 58,.tmp 67]) rfl ?_);at_builtin;refine Kd.R_append k48 (w0:=w) w.heap.size rfl (.tmp 58) (.tmp 67) 26 48 (.agg #[(.slice none 0 0),(.int .i64 0)]) 32 rfl Tryz.underlying26 infoE rfl (by decide) (by omega) u6 zs ⟨t.x,sm⟩ [.slice A3 t.x.length c3,.int .i64 sm] (fun _=>True) (fun k=>True ∧ some k ≠ (u6 : Value).ownBlock) rfl rfl ?aP (fun _ hk=>hk) ?aF ?aO ?aB ?aS ?aL ?_;(case aP=>exact k48_mkM _ _ _ ⟨t.x,sm⟩ (Kd.R_lower (Kd.R_mono (Kd.R_bound HO3.out) (fun k hk=>⟨trivial,fun e=>by have:=Kd.R_lt HZ3.out k e.symm;have:=hk.2.1;omega⟩)) HB3.out.size));(case aB=>exact HB4.out);(case aF=>exact fun _ _=>trivial);(case aO=>exact Kd.R_below HZ3.out HW4.out);(case aS=>exact HB4.out.size);(case aL=>omega);intro v6' w5 ho5 hb5 hg5 hn5;clear hn5;have HO5:=hidF ho5;have HB5:=hidF hb5;have HG5:=hidF hg5;clear ho5 hb5 hg5))
       have HTG5 : Hid (TG w g c4 T w5):=hidF (by
        have hT4:=HTG3.out.below HW4.out
        obtain ⟨r,hb,hln⟩:=hT4.blk
        exact ⟨HB5.out,hT4.new,hT4.le,hT4.lim,r,(HG5.out.block g hT4.lt (Kd.R_ne (Kd.R_below HZ3.out HW4.out) hb (by decide))).trans hb,hln⟩)
       go_roundw
       case rel=>exact ⟨j + 1,zs ++ [⟨t.x,sm⟩],by go_num,by omega,HB5,hidF (fun _=>⟨g,rfl,HTG5.out⟩),HO5,HZ0,HF2⟩
       case measure=>simp [natOf];omega
     ·have hfr : fair t.sum = false:=by simpa using hfr
      have WG : Hid (∀ W,Calls Tryz.prog 48 #[.agg #[.slice t.A t.x.length t.c,.int .i64 t.hi,.int .i64 t.lo]] W fun e w'=>∃ v,e = .returned (.tuple #[.int .i64 v,.bool false]) ∧ Below W.heap.size W w') :=
       hidF fun W=>(WGT.out W).mono fun e w' ⟨v,h1,_,h3⟩=>⟨v,by rw [h1,hfr],h3⟩
      have HM : Hid (makeP l = ([],11)):=hidF (by
       unfold makeP
       rw [HK2.out,show (sums cT (l.map prE)).all (fun p=>fair p.2) = false from List.all_eq_false.2 ⟨t.pr,HMEM.out,by rw [show fair t.pr.2 = false from hfr];exact Bool.false_ne_true⟩];rfl)
      clear WGT hfr
      go_wp2_with (go_at_call 48;((with_reducible refine (WG.out _).mono ?_);rintro e w3 ⟨v3,rfl,hb3⟩;have HW3:=hidF hb3;clear hb3))
      go_ret2
      exact MakeOut.of HM.out (Kd.R_nil _ _ _ _ _) (HB.out.trans (HW3.out.mono HB.out.size))
    ·have hd2 : decide ((j : Int) < (T.length : Int)) = false:=decide_eq_false (by omega)
     have hdj : ¬ (j : Int) < (T.length : Int):=by omega
     have HM : Hid (makeP l = (zs,0)):=hidF (by
      have hje : j = T.length:=by omega
      have h1:=HZS.out.1
      have h2:=HF.out
      rw [List.take_of_length_le (by rw [List.length_map];omega),HS.out] at h1 h2
      unfold makeP
      rw [HK2.out,h2,h1];rfl)
     go_wp2_with fail
     go_ret2
     exact MakeOut.of HM.out HZ.out HB.out
end Go.Proofs.YthpkjkcfhipjhaaGreatDoor
end
section
namespace Go.Proofs.YthpkjkcfhipjhaaGreatDoor
set_option linter.unusedVariables false
set_option linter.unusedSimpArgs false
open Go.RowKit Go.Proofs.YthpkjkcfhipjhaaGreatDoorW.PrintWords Go.Proofs.YthpkjkcfhipjhaaGreatDoorW.PrintLast PRW PZA
theorem rcmp3_c (A : Option Addr) (c : Nat) (L : List S64) (B : Option Addr) (d : Nat) (M : List S64) (W : World) (hC : Kd.C k64 W A L.length L) (hc : L.length ≤ c) (hD : Kd.C k64 W B M.length M) (hd : M.length ≤ d) (hr : rngL L = true) (hs : rngL M = true) :
  Calls Tryz.prog 32 #[.slice A L.length c,.slice B M.length d] W fun e w'=>e = .returned (.int .i64 (cmpLS L M)) ∧ Below W.heap.size W w':=by
 obtain ⟨k,hk⟩:=rcmp_ev L M hr hs
 exact freshetref02_Compare.calls k A c L B d M _ W hC hc hD hd (hk k (Nat.le_refl _))
theorem range_snoc (l : List S48) (i : Nat) : (List.range' 0 (i + 1)).all (gdE l) = ((List.range' 0 i).all (gdE l) && gdE l i):=by
 rw [List.range'_concat];simp
theorem sound_no {l : List S48} {i : Nat} (hi : i < l.length) (h : gdE l i = false) : soundZ l = false:=by
 unfold soundZ
 exact List.all_eq_false.2 ⟨i,by simp;omega,by rw [h];exact Bool.false_ne_true⟩
set_option maxRecDepth 1000000 in
set_option maxHeartbeats 16000000 in
theorem sound3_c (A0 : Option Addr) (c0 : Nat) (l : List S48) (w : World) (hr : Kd.C k48 w A0 l.length l) (hR : ∀ x ∈ l,rngL x.f0 = true) (hl : l.length ≤ 1000000) :
    Calls Tryz.prog 13 #[.slice A0 l.length c0] w fun e w'=>e = .returned (.bool (soundZ l)) ∧ Below w.heap.size w w':=by
  have hu:=Tryz.underlying48
  have HR:=hidF hr
  have HRR:=hidF hR
  clear hr hR
  go_enter Tryz.func13,Tryz.ntmps13
  go_wp2
  go_loopw [3] (fun v3 wr=>∃ i : Nat,v3 = Value.int .i64 i ∧ i ≤ l.length ∧ Hid (Below w.heap.size w wr) ∧ Hid ((List.range' 0 i).all (gdE l) = true)) (fun v3 _=>l.length - natOf v3)
  case atStart=>exact ⟨0,rfl,by omega,hidF (Below.refl _ _),hidF rfl⟩
  case round =>
    obtain ⟨i,rfl,hil,HB,HK⟩:=hrel
    by_cases hlt : i < l.length
    · have hd : decide ((i : Int) < (l.length : Int)) = true:=decide_eq_true (by omega)
      have hdI : (i : Int) < (l.length : Int):=by omega
      have hi0 : (0 : Int) ≤ (i : Int):=by omega
      obtain ⟨ad,A1,d1,e,k0,k1,hl1,hC1⟩:=at_T48 HR.out (i : Int) hi0 hdI
      cases e
      rw [Int.toNat_natCast] at k0 k1
      have hx1:=HRR.out _ (rd_memE l (i : Int) hi0 hdI)
      obtain ⟨x,hx⟩ : ∃ x,rd_T48 l (i : Int) = x:=⟨_,rfl⟩
      rw [hx] at k0 k1 hl1 hC1 hx1
      have HX:=hidF hx
      have K0:=hidF k0
      have K1:=hidF k1
      have v9 : IntKind.i64.wrap ((i : Int) + 1) = ((i + 1 : Nat) : Int):=by rw [IntKind.wrap_i64];omega
      have hC : Below w.heap.size w { wr with drawn:=wr.drawn + 1 }:=HB.out.drew
      have FAIR : Hid (∀ W,Calls Tryz.prog 46 #[.int .i64 x.f1] W fun e w'=>e = .returned (.bool (fair x.f1)) ∧ Below W.heap.size W w'):=hidF fun W=>fair3_c x.f1 W
      have SND : Hid (∀ W,Below w.heap.size w W → Calls Tryz.prog 30 #[.slice A1 x.f0.length d1] W fun e w'=>e = .returned (.bool (soundL x.f0)) ∧ Below W.heap.size W w'):=hidF fun W hb=>rsound3_c A1 d1 x.f0 W (Kd.C_below hC1 hb) hl1 hx1
      have HC1:=hidF hC1
      have HL1:=hidF hl1
      have HX1:=hidF hx1
      clear hx k0 k1 hC1 hl1 hx1
      by_cases hw : x.f1 = 0
      · have n1 : (x.f1 == 0) = true:=by rw [hw];rfl
        have n2 : decide (x.f1 = 0) = true:=decide_eq_true hw
        have HNO : Hid (soundZ l = false):=hidF (sound_no hlt (by unfold gdE;simp [HX.out,hw]))
        have CMP:=FAIR
        clear hw
        go_wp2_with fail
        refine zregion (C:=fun W=>Below w.heap.size w W) (by kernel_rfl) (by kernel_rfl) hC ?_
        clear hC
        repeat (first
          | go_big_quiet_skip
          | (go_big_quiet_want;first
              | (go_big_quiet_op;go_big_quiet_on)
              | (apply Exists.intro
                 refine ⟨fun w' hw'=>?_, ?_⟩
                 · (have HC':=Lib.hid hw'
                    have k0:=(hw'.cell (World.block_lt_of_cell? w _ K0.out)).trans K0.out
                    have k1:=(hw'.cell (World.block_lt_of_cell? w _ K1.out)).trans K1.out
                    clear hw'
                    go_simp
                    first
                      | exact rfl
                      | ((with_reducible refine (FAIR.out _).mono ?_);rintro e' w'' ⟨rfl,hb⟩;exact ⟨rfl,HC'.out.trans (hb.mono HC'.out.size)⟩)
                      | ((with_reducible refine (SND.out _ HC'.out).mono ?_);rintro e' w'' ⟨rfl,hb⟩;exact ⟨rfl,HC'.out.trans (hb.mono HC'.out.size)⟩)
                      | ((with_reducible refine (CMP.out _ HC'.out).mono ?_);rintro e' w'' ⟨rfl,hb⟩;exact ⟨rfl,HC'.out.trans (hb.mono HC'.out.size)⟩))
                 go_simp
                 go_big_quiet_on)))
        refine wpQuiet_nil ?_
        intro w3 hw3
        have HB3:=hidF hw3
        clear hw3
        go_wp2
        go_ret
        exact ⟨by (rw [HNO.out] <;> rfl),HB3.out⟩
      · have n1 : (x.f1 == 0) = false:=beq_eq_false_iff_ne.2 hw
        have n2 : decide (x.f1 = 0) = false:=decide_eq_false hw
        cases hf : fair x.f1
        · have HNO : Hid (soundZ l = false):=hidF (sound_no hlt (by unfold gdE okE;simp [HX.out,hf]))
          rw [hf] at FAIR
          have CMP:=FAIR
          clear hf
          go_wp2_with fail
          refine zregion (C:=fun W=>Below w.heap.size w W) (by kernel_rfl) (by kernel_rfl) hC ?_
          clear hC
          repeat (first
            | go_big_quiet_skip
            | (go_big_quiet_want;first
                | (go_big_quiet_op;go_big_quiet_on)
                | (apply Exists.intro
                   refine ⟨fun w' hw'=>?_, ?_⟩
                   · (have HC':=Lib.hid hw'
                      have k0:=(hw'.cell (World.block_lt_of_cell? w _ K0.out)).trans K0.out
                      have k1:=(hw'.cell (World.block_lt_of_cell? w _ K1.out)).trans K1.out
                      clear hw'
                      go_simp
                      first
                        | exact rfl
                        | ((with_reducible refine (FAIR.out _).mono ?_);rintro e' w'' ⟨rfl,hb⟩;exact ⟨rfl,HC'.out.trans (hb.mono HC'.out.size)⟩)
                        | ((with_reducible refine (SND.out _ HC'.out).mono ?_);rintro e' w'' ⟨rfl,hb⟩;exact ⟨rfl,HC'.out.trans (hb.mono HC'.out.size)⟩)
                        | ((with_reducible refine (CMP.out _ HC'.out).mono ?_);rintro e' w'' ⟨rfl,hb⟩;exact ⟨rfl,HC'.out.trans (hb.mono HC'.out.size)⟩))
                   go_simp
                   go_big_quiet_on)))
          refine wpQuiet_nil ?_
          intro w3 hw3
          have HB3:=hidF hw3
          clear hw3
          go_wp2
          go_ret
          exact ⟨by (rw [HNO.out] <;> rfl),HB3.out⟩
        · rw [hf] at FAIR
          cases hs : soundL x.f0
          · have HNO : Hid (soundZ l = false):=hidF (sound_no hlt (by unfold gdE okE;simp [HX.out,hs]))
            have SND : Hid (∀ W,Below w.heap.size w W → Calls Tryz.prog 30 #[.slice A1 x.f0.length d1] W fun e w'=>e = .returned (.bool false) ∧ Below W.heap.size W w'):=hidF (by have:=SND.out;rwa [hs] at this)
            have CMP:=FAIR
            clear hf hs
            go_wp2_with fail
            refine zregion (C:=fun W=>Below w.heap.size w W) (by kernel_rfl) (by kernel_rfl) hC ?_
            clear hC
            repeat (first
              | go_big_quiet_skip
              | (go_big_quiet_want;first
                  | (go_big_quiet_op;go_big_quiet_on)
                  | (apply Exists.intro
                     refine ⟨fun w' hw'=>?_, ?_⟩
                     · (have HC':=Lib.hid hw'
                        have k0:=(hw'.cell (World.block_lt_of_cell? w _ K0.out)).trans K0.out
                        have k1:=(hw'.cell (World.block_lt_of_cell? w _ K1.out)).trans K1.out
                        clear hw'
                        go_simp
                        first
                          | exact rfl
                          | ((with_reducible refine (FAIR.out _).mono ?_);rintro e' w'' ⟨rfl,hb⟩;exact ⟨rfl,HC'.out.trans (hb.mono HC'.out.size)⟩)
                          | ((with_reducible refine (SND.out _ HC'.out).mono ?_);rintro e' w'' ⟨rfl,hb⟩;exact ⟨rfl,HC'.out.trans (hb.mono HC'.out.size)⟩)
                          | ((with_reducible refine (CMP.out _ HC'.out).mono ?_);rintro e' w'' ⟨rfl,hb⟩;exact ⟨rfl,HC'.out.trans (hb.mono HC'.out.size)⟩))
                     go_simp
                     go_big_quiet_on)))
            refine wpQuiet_nil ?_
            intro w3 hw3
            have HB3:=hidF hw3
            clear hw3
            go_wp2
            go_ret
            exact ⟨by (rw [HNO.out] <;> rfl),HB3.out⟩
          · have SND : Hid (∀ W,Below w.heap.size w W → Calls Tryz.prog 30 #[.slice A1 x.f0.length d1] W fun e w'=>e = .returned (.bool true) ∧ Below W.heap.size W w'):=hidF (by have:=SND.out;rwa [hs] at this)
            by_cases h0 : i = 0
            · have n3 : decide ((i : Int) > 0) = false:=decide_eq_false (by omega)
              have n4 : decide ((0 : Int) < (i : Int)) = false:=decide_eq_false (by omega)
              have n5 : ¬ (0 : Int) < (i : Int):=by omega
              have n6 : decide (0 < i) = false:=decide_eq_false (by omega)
              have n7 : ¬ 0 < i:=by omega
              have HYES : Hid ((List.range' 0 (i + 1)).all (gdE l) = true):=hidF (by
                rw [range_snoc,HK.out,Bool.true_and];unfold gdE okE;simp only [HX.out,hf,hs,n1,show (i == 0) = true by rw [h0];rfl];rfl)
              have CMP:=FAIR
              clear hf hs h0 hw
              go_wp2_with fail
              refine zregion (C:=fun W=>Below w.heap.size w W) (by kernel_rfl) (by kernel_rfl) hC ?_
              clear hC
              repeat (first
                | go_big_quiet_skip
                | (go_big_quiet_want;first
                    | (go_big_quiet_op;go_big_quiet_on)
                    | (apply Exists.intro
                       refine ⟨fun w' hw'=>?_, ?_⟩
                       · (have HC':=Lib.hid hw'
                          have k0:=(hw'.cell (World.block_lt_of_cell? w _ K0.out)).trans K0.out
                          have k1:=(hw'.cell (World.block_lt_of_cell? w _ K1.out)).trans K1.out
                          clear hw'
                          go_simp
                          first
                            | exact rfl
                            | ((with_reducible refine (FAIR.out _).mono ?_);rintro e' w'' ⟨rfl,hb⟩;exact ⟨rfl,HC'.out.trans (hb.mono HC'.out.size)⟩)
                            | ((with_reducible refine (SND.out _ HC'.out).mono ?_);rintro e' w'' ⟨rfl,hb⟩;exact ⟨rfl,HC'.out.trans (hb.mono HC'.out.size)⟩)
                            | ((with_reducible refine (CMP.out _ HC'.out).mono ?_);rintro e' w'' ⟨rfl,hb⟩;exact ⟨rfl,HC'.out.trans (hb.mono HC'.out.size)⟩))
                       go_simp
                       go_big_quiet_on)))
              refine wpQuiet_nil ?_
              intro w3 hw3
              have HB3:=hidF hw3
              clear hw3
              go_wp2
              go_roundw
              case rel=>exact ⟨i + 1,by go_num,by omega,HB3,HYES⟩
              case measure=>simp [natOf];omega
            · obtain ⟨p,hp⟩ : ∃ p,i - 1 = p:=⟨_,rfl⟩
              have hp1 : (p : Int) < (l.length : Int):=by omega
              have hp0 : (0 : Int) ≤ (p : Int):=by omega
              obtain ⟨ad2,A2,d2,e2,m0,_,hl2,hC2⟩:=at_T48 HR.out (p : Int) hp0 hp1
              obtain rfl : ad = ad2:=by injection e2
              rw [Int.toNat_natCast] at m0
              have hy1:=HRR.out _ (rd_memE l (p : Int) hp0 hp1)
              obtain ⟨y,hy⟩ : ∃ y,rd_T48 l (p : Int) = y:=⟨_,rfl⟩
              rw [hy] at m0 hl2 hC2 hy1
              have HY:=hidF hy
              have M0:=hidF m0
              have v8 : IntKind.i64.wrap ((i : Int) - 1) = (p : Int):=by rw [IntKind.wrap_i64];omega
              have n3 : decide ((i : Int) > 0) = true:=decide_eq_true (by omega)
              have n4 : decide ((0 : Int) < (i : Int)) = true:=decide_eq_true (by omega)
              have n5 : (0 : Int) < (i : Int):=by omega
              have m6 : decide (0 < i) = true:=decide_eq_true (by omega)
              have m7 : 0 < i:=by omega
              obtain ⟨cm,hcm⟩ : ∃ cm,cmpLS y.f0 x.f0 = cm:=⟨_,rfl⟩
              have CMP : Hid (∀ W,Below w.heap.size w W → Calls Tryz.prog 32 #[.slice A2 y.f0.length d2,.slice A1 x.f0.length d1] W fun e w'=>e = .returned (.int .i64 cm) ∧ Below W.heap.size W w'):=hidF fun W hb=>by
                have:=rcmp3_c A2 d2 y.f0 A1 d1 x.f0 W (Kd.C_below hC2 hb) hl2 (Kd.C_below HC1.out hb) HL1.out hy1 HX1.out
                rwa [hcm] at this
              have e1 : (i == 0) = false:=beq_eq_false_iff_ne.2 h0
              have hg : gdE l i = decide (cm < 0):=by
                unfold gdE okE
                simp only [HX.out,show ((i - 1 : Nat) : Int) = (p : Int) by omega,HY.out,hf,hs,n1,e1,hcm]
                simp
              by_cases hc : cm < 0
              · have n6 : decide (cm ≥ 0) = false:=decide_eq_false (by omega)
                have n7 : decide ((0 : Int) ≤ cm) = false:=decide_eq_false (by omega)
                have HYES : Hid ((List.range' 0 (i + 1)).all (gdE l) = true):=hidF (by rw [range_snoc,HK.out,hg,decide_eq_true hc];rfl)
                clear hf hs hw hg e1 hcm hy m0 hC2 hl2 hp h0 hy1 e2 hc
                go_wp2_with fail
                refine zregion (C:=fun W=>Below w.heap.size w W) (by kernel_rfl) (by kernel_rfl) hC ?_
                clear hC
                repeat (first
                  | go_big_quiet_skip
                  | (go_big_quiet_want;first
                      | (go_big_quiet_op;go_big_quiet_on)
                      | (apply Exists.intro
                         refine ⟨fun w' hw'=>?_, ?_⟩
                         · (have HC':=Lib.hid hw'
                            have k0:=(hw'.cell (World.block_lt_of_cell? w _ K0.out)).trans K0.out
                            have k1:=(hw'.cell (World.block_lt_of_cell? w _ K1.out)).trans K1.out
                            have m0:=(hw'.cell (World.block_lt_of_cell? w _ M0.out)).trans M0.out
                            clear hw'
                            go_simp
                            first
                              | exact rfl
                              | ((with_reducible refine (FAIR.out _).mono ?_);rintro e' w'' ⟨rfl,hb⟩;exact ⟨rfl,HC'.out.trans (hb.mono HC'.out.size)⟩)
                              | ((with_reducible refine (SND.out _ HC'.out).mono ?_);rintro e' w'' ⟨rfl,hb⟩;exact ⟨rfl,HC'.out.trans (hb.mono HC'.out.size)⟩)
                              | ((with_reducible refine (CMP.out _ HC'.out).mono ?_);rintro e' w'' ⟨rfl,hb⟩;exact ⟨rfl,HC'.out.trans (hb.mono HC'.out.size)⟩))
                         go_simp
                         go_big_quiet_on)))
                refine wpQuiet_nil ?_
                intro w3 hw3
                have HB3:=hidF hw3
                clear hw3
                go_wp2
                go_roundw
                case rel=>exact ⟨i + 1,by go_num,by omega,HB3,HYES⟩
                case measure=>simp [natOf];omega
              · have n6 : decide (cm ≥ 0) = true:=decide_eq_true (by omega)
                have n7 : decide ((0 : Int) ≤ cm) = true:=decide_eq_true (by omega)
                have HNO : Hid (soundZ l = false):=hidF (sound_no hlt (by rw [hg,decide_eq_false hc]))
                clear hf hs hw hg e1 hcm hy m0 hC2 hl2 hp h0 hy1 e2 hc
                go_wp2_with fail
                refine zregion (C:=fun W=>Below w.heap.size w W) (by kernel_rfl) (by kernel_rfl) hC ?_
                clear hC
                repeat (first
                  | go_big_quiet_skip
                  | (go_big_quiet_want;first
                      | (go_big_quiet_op;go_big_quiet_on)
                      | (apply Exists.intro
                         refine ⟨fun w' hw'=>?_, ?_⟩
                         · (have HC':=Lib.hid hw'
                            have k0:=(hw'.cell (World.block_lt_of_cell? w _ K0.out)).trans K0.out
                            have k1:=(hw'.cell (World.block_lt_of_cell? w _ K1.out)).trans K1.out
                            have m0:=(hw'.cell (World.block_lt_of_cell? w _ M0.out)).trans M0.out
                            clear hw'
                            go_simp
                            first
                              | exact rfl
                              | ((with_reducible refine (FAIR.out _).mono ?_);rintro e' w'' ⟨rfl,hb⟩;exact ⟨rfl,HC'.out.trans (hb.mono HC'.out.size)⟩)
                              | ((with_reducible refine (SND.out _ HC'.out).mono ?_);rintro e' w'' ⟨rfl,hb⟩;exact ⟨rfl,HC'.out.trans (hb.mono HC'.out.size)⟩)
                              | ((with_reducible refine (CMP.out _ HC'.out).mono ?_);rintro e' w'' ⟨rfl,hb⟩;exact ⟨rfl,HC'.out.trans (hb.mono HC'.out.size)⟩))
                         go_simp
                         go_big_quiet_on)))
                refine wpQuiet_nil ?_
                intro w3 hw3
                have HB3:=hidF hw3
                clear hw3
                go_wp2
                go_ret
                exact ⟨by (rw [HNO.out] <;> rfl),HB3.out⟩
    · have hd : decide ((i : Int) < (l.length : Int)) = false:=decide_eq_false (by omega)
      have hdI : ¬ (i : Int) < (l.length : Int):=by omega
      have HYS : Hid (soundZ l = true):=hidF (by have:=HK.out;rwa [show i = l.length by omega] at this)
      go_wp2
      go_ret
      exact ⟨by (rw [HYS.out] <;> rfl),HB.out⟩
end Go.Proofs.YthpkjkcfhipjhaaGreatDoor
end
section
namespace Go.Proofs.YthpkjkcfhipjhaaGreatDoor
set_option linter.unusedVariables false
set_option linter.unusedSimpArgs false
open Go.RowKit Go.Proofs.YthpkjkcfhipjhaaGreatDoorW.PrintWords Go.Proofs.YthpkjkcfhipjhaaGreatDoorW.PrintLast PRW PZA
def xCloneRow.f (l : List S64) : Option (List S64):=if l.length ≤ 1000000 then some l else none
theorem xCloneRow.calls (A0 : Option Addr) (c0 : Nat) (l : List S64) (r : List S64) (w : World) (hr0 : Kd.C k64 w A0 l.length l) (hc0 : l.length ≤ c0) (h : xCloneRow.f l = some r) :
  Calls Tryz.prog 45 #[.slice A0 l.length c0] w fun e w'=>∃ v0_ : Value,e = .returned v0_ ∧ Kd.R k64 64 w' w.heap.size (fun _=>True) v0_ r ∧ Below w.heap.size w w':=by
 obtain ⟨hl,rfl⟩:=ext_of h
 exact cloneRow_c A0 c0 l w hr0 hl
def xZSound.f (l : List S48) : Option Bool:=if rngE l = true ∧ l.length ≤ 1000000 then some (soundZ l) else none
theorem xZSound.calls (A0 : Option Addr) (c0 : Nat) (l : List S48) (r : Bool) (w : World) (hr0 : Kd.C k48 w A0 l.length l) (hc0 : l.length ≤ c0) (h : xZSound.f l = some r) :
  Calls Tryz.prog 12 #[.slice A0 l.length c0] w fun e w'=>e = .returned (.bool r) ∧ Below w.heap.size w w':=by
 obtain ⟨⟨hr,hl⟩,rfl⟩:=ext_of h
 exact zSound_c A0 c0 l w hr0 hc0 (fun x hx=>(rngE_at hr x hx).1) hl
def xMake.f (l : List S48) : Option (List S48 × Int):=if rngE l = true ∧ l.length ≤ 1000000 then some (makeP l) else none
theorem xMake.calls (A0 : Option Addr) (c0 : Nat) (l : List S48) (r1 : List S48) (r2 : Int) (w : World) (hr0 : Kd.C k48 w A0 l.length l) (hc0 : l.length ≤ c0) (h : xMake.f l = some (r1,r2)) :
  Calls Tryz.prog 7 #[.slice A0 l.length c0] w fun e w'=>∃ v0_ : Value,e = .returned (.tuple #[v0_,.int .i64 r2]) ∧ Kd.R k48 48 w' w.heap.size (fun _=>True) v0_ r1 ∧ Below w.heap.size w w':=by
 obtain ⟨⟨hr,hl⟩,he⟩:=ext_of h
 refine (make_c A0 c0 l w hr0 hl (rngE_at hr)).mono ?_
 rintro e w' ⟨v0,h1,h2,h3⟩
 rw [he] at h1 h2
 exact ⟨v0,h1,h2,h3⟩
def xAdd.f (l m : List S48) : Option (List S48 × Int):=if (rngE l = true ∧ l.length ≤ 500000) ∧ (rngE m = true ∧ m.length ≤ 500000) then some (addP l m) else none
theorem xAdd.calls (A0 : Option Addr) (c0 : Nat) (l : List S48) (A1 : Option Addr) (c1 : Nat) (m : List S48) (r1 : List S48) (r2 : Int) (w : World) (hr0 : Kd.C k48 w A0 l.length l) (hc0 : l.length ≤ c0) (hr1 : Kd.C k48 w A1 m.length m) (hc1 : m.length ≤ c1) (h : xAdd.f l m = some (r1,r2)) :
  Calls Tryz.prog 18 #[.slice A0 l.length c0,.slice A1 m.length c1] w fun e w'=>∃ v0_ : Value,e = .returned (.tuple #[v0_,.int .i64 r2]) ∧ Kd.R k48 48 w' w.heap.size (fun _=>True) v0_ r1 ∧ Below w.heap.size w w':=by
 obtain ⟨⟨⟨hr,hl⟩,hs,hm⟩,he⟩:=ext_of h
 refine (add_z A0 c0 l A1 c1 m w hr0 hc0 hr1 hc1 (rngE_at hr) (rngE_at hs) hl hm).mono ?_
 rintro e w' ⟨v0,h1,h2,h3⟩
 rw [he] at h1 h2
 exact ⟨v0,h1,h2,h3⟩
def xWeight.f (l : List S48) (r : List S64) : Option Int:=if (rngE l = true ∧ l.length ≤ 1000000) ∧ rngL r = true then some (weightP l r) else none
theorem xWeight.calls (A0 : Option Addr) (c0 : Nat) (l : List S48) (A1 : Option Addr) (c1 : Nat) (m : List S64) (r : Int) (w : World) (hr0 : Kd.C k48 w A0 l.length l) (hc0 : l.length ≤ c0) (hr1 : Kd.C k64 w A1 m.length m) (hc1 : m.length ≤ c1) (h : xWeight.f l m = some r) :
  Calls Tryz.prog 16 #[.slice A0 l.length c0,.slice A1 m.length c1] w fun e w'=>e = .returned (.int .i64 r) ∧ Below w.heap.size w w':=by
 obtain ⟨⟨⟨hr,hl⟩,hm⟩,rfl⟩:=ext_of h
 exact weight_z A0 c0 l A1 c1 m w hr0 hc0 hr1 hc1 (fun x hx=>(rngE_at hr x hx).1) hm hl
def xItoa.f (n : Int) : Option ByteArray:=if -9223372036854775808 ≤ n ∧ n ≤ 9223372036854775807 then some ⟨(Lib.itoa n).toArray⟩ else none
theorem xItoa.calls (n : Int) (r : ByteArray) (w : World) (hT : RTab w) (h : xItoa.f n = some r) :
  Calls Tryz.prog 50 #[.int .i64 n] w fun e w'=>e = .returned (.string r) ∧ Below w.heap.size w w':=by
 obtain ⟨⟨h0,h1⟩,rfl⟩:=ext_of h
 exact itoa_c n w ⟨h0,h1⟩ hT.pow
end Go.Proofs.YthpkjkcfhipjhaaGreatDoor
end
section
namespace Go.Proofs.YthpkjkcfhipjhaaGreatDoor
set_option linter.unusedVariables false
set_option linter.unusedSimpArgs false
open Go.RowKit Go.Proofs.YthpkjkcfhipjhaaGreatDoorW.PrintWords Go.Proofs.YthpkjkcfhipjhaaGreatDoorW.PrintLast PRW PZA
def xSound3.f (l : List S48) : Option Bool:=if rngE l = true ∧ l.length ≤ 1000000 then some (soundZ l) else none
theorem xSound3.calls (A0 : Option Addr) (c0 : Nat) (l : List S48) (r : Bool) (w : World) (hr0 : Kd.C k48 w A0 l.length l) (hc0 : l.length ≤ c0) (h : xSound3.f l = some r) :
  Calls Tryz.prog 13 #[.slice A0 l.length c0] w fun e w'=>e = .returned (.bool r) ∧ Below w.heap.size w w':=by
 obtain ⟨⟨hr,hl⟩,rfl⟩:=ext_of h
 exact sound3_c A0 c0 l w hr0 (fun x hx=>(rngE_at hr x hx).1) hl
end Go.Proofs.YthpkjkcfhipjhaaGreatDoor
end
