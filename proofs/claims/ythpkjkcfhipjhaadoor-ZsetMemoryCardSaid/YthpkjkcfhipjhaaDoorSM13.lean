/- a part of the claim: what the card leans on, out of the texts ZQ2, ZA8, ZA9, ZL1, ZSH, XZA, ZM1, ZM2, ZM3 (put together by wip/tools/shake.py). -/
import Derived.Test.YthpkjkcfhipjhaaDoorSM1
import Derived.Test.YthpkjkcfhipjhaaDoorSM4
import Derived.Test.YthpkjkcfhipjhaaDoorSM11
import Derived.Test.YthpkjkcfhipjhaaDoorSM12
import Derived.Lib.ItoaLen
section
namespace Go.Proofs.YthpkjkcfhipjhaaDoor
set_option linter.unusedVariables false
set_option linter.unusedSimpArgs false
open Go.RowKit Go.Proofs.YthpkjkcfhipjhaaDoorW.PrintWords Go.Proofs.YthpkjkcfhipjhaaDoorW.PrintLast PRW PZA PZB
theorem soundZ_parts {l : List S35} (hr : rngE l = true) (h : soundZ l = true) : (∀ x ∈ l, x.f1 ≠ 0 ∧ fair x.f1 = true ∧ soundL x.f0 = true ∧ rngL x.f0 = true ∧ x.f0.length ≤ 1024) ∧ Zst cT (l.map prE) := by
  obtain ⟨h1, h2⟩ := (soundZ_iff l (fun x hx => (rngE_at hr x hx).1)).1 h
  refine ⟨fun x hx => ?_, h2⟩
  obtain ⟨a, b⟩ := h1 x hx
  unfold okE at b
  rw [Bool.and_eq_true] at b
  refine ⟨a, b.1, b.2, (rngE_at hr x hx).1, ?_⟩
  have := b.2
  unfold soundL at this
  simp at this
  exact this.1
def negE (x : S35) : S35 := ⟨x.f0, -x.f1⟩
def negP (l : List S35) : List S35 × Int := if soundZ l then (l.map negE, 0) else ([], 1)
def oneE (x : S35) : S35 := ⟨x.f0, 1⟩
def distP (l : List S35) : List S35 × Int := if soundZ l then ((l.filter fun x => decide (x.f1 > 0)).map oneE, 0) else ([], 1)
theorem neg_ev (l : List S35) (hr : rngE l = true) (hl : l.length ≤ 1000000) : Ev (fun k => zset_Neg.f k l) (negP l) := by
  unfold negP
  cases hs : soundZ l
  · refine Ev.congr (f := fun _ => some ([], 1)) (fun k => ?_) (Ev.now _)
    unfold zset_Neg.f xZSound.f
    rw [if_pos ⟨hr, hl⟩, hs]; rfl
  · obtain ⟨hp, _⟩ := soundZ_parts hr hs
    have main : ∀ d i : Nat, i + d = l.length → Ev (fun k => zset_Neg.l0 k ((l.take i).map negE) l (l.length : Int) (i : Int)) (l.map negE, 0) := by
      intro d
      induction d with
      | zero =>
        intro i hi
        rw [List.take_of_length_le (by omega)]
        refine Ev.step (f := fun _ => some (l.map negE, 0)) (fun k => ?_) (Ev.now _)
        simp only [zset_Neg.l0]
        rw [if_neg (by omega)]
      | succ d ih =>
        intro i hi
        have h1 : i < l.length := by omega
        obtain ⟨_, p2, _, _, p5⟩ := hp _ (List.getElem_mem h1)
        obtain ⟨f1, f2⟩ := fair_iff.1 p2
        refine Ev.step (fun k => ?_) (ih (i + 1) (by omega))
        simp only [zset_Neg.l0]
        rw [if_pos (by omega), if_pos (by omega), if_pos (by omega), rd_atE l i h1]
        unfold xCloneRow.f
        rw [if_pos (by omega)]
        simp only [Option.bind_some]
        rw [if_pos (by rw [List.length_map, List.length_take]; omega), w64k (n := -l[i].f1) (by omega) (by omega), w64k (by omega) (by omega), List.take_succ_eq_append_getElem h1, List.map_append]
        rfl
    refine Ev.congr (fun k => ?_) (main l.length 0 (by omega))
    unfold zset_Neg.f xZSound.f
    rw [if_pos ⟨hr, hl⟩, hs]
    simp only [Option.bind_some, if_true]
    rw [if_pos (by omega), if_pos (by omega)]
    rfl
theorem dist_ev (l : List S35) (hr : rngE l = true) (hl : l.length ≤ 1000000) : Ev (fun k => zset_Distinct.f k l) (distP l) := by
  unfold distP
  cases hs : soundZ l
  · refine Ev.congr (f := fun _ => some ([], 1)) (fun k => ?_) (Ev.now _)
    unfold zset_Distinct.f xZSound.f
    rw [if_pos ⟨hr, hl⟩, hs]; rfl
  · obtain ⟨hp, _⟩ := soundZ_parts hr hs
    have main : ∀ d i : Nat, i + d = l.length → Ev (fun k => zset_Distinct.l0 k (((l.take i).filter fun x => decide (x.f1 > 0)).map oneE) l (l.length : Int) (i : Int)) ((l.filter fun x => decide (x.f1 > 0)).map oneE, 0) := by
      intro d
      induction d with
      | zero =>
        intro i hi
        rw [List.take_of_length_le (by omega)]
        refine Ev.step (f := fun _ => some ((l.filter fun x => decide (x.f1 > 0)).map oneE, 0)) (fun k => ?_) (Ev.now _)
        simp only [zset_Distinct.l0]
        rw [if_neg (by omega)]
      | succ d ih =>
        intro i hi
        have h1 : i < l.length := by omega
        obtain ⟨_, p2, _, _, p5⟩ := hp _ (List.getElem_mem h1)
        refine Ev.step (fun k => ?_) (ih (i + 1) (by omega))
        simp only [zset_Distinct.l0]
        rw [if_pos (by omega), if_pos (by omega), if_pos (by omega), rd_atE l i h1, List.take_succ_eq_append_getElem h1, List.filter_append, List.map_append]
        by_cases hw : l[i].f1 > 0
        · rw [if_pos hw]
          unfold xCloneRow.f
          rw [if_pos (by omega)]
          simp only [Option.bind_some]
          have hlen : (((l.take i).filter fun x => decide (x.f1 > 0)).map oneE).length ≤ i := by
            rw [List.length_map]
            exact Nat.le_trans (List.length_filter_le _ _) (by rw [List.length_take]; omega)
          rw [if_pos (by omega), w64k (by omega) (by omega), List.filter_cons, if_pos (decide_eq_true hw)]
          rfl
        · rw [if_neg hw, w64k (by omega) (by omega), List.filter_cons, if_neg (by simpa using hw), List.filter_nil, List.map_nil, List.append_nil]
          rfl
    refine Ev.congr (fun k => ?_) (main l.length 0 (by omega))
    unfold zset_Distinct.f xZSound.f
    rw [if_pos ⟨hr, hl⟩, hs]
    simp only [Option.bind_some, if_true]
    rfl
end Go.Proofs.YthpkjkcfhipjhaaDoor
end
section
namespace Go.Proofs.YthpkjkcfhipjhaaDoor
set_option linter.unusedVariables false
set_option linter.unusedSimpArgs false
open Go.RowKit Go.Proofs.YthpkjkcfhipjhaaDoorW.PrintWords Go.Proofs.YthpkjkcfhipjhaaDoorW.PrintLast PRW PZA PZB
/-- groups, counted down -/
def grpF {α : Type} (cf : α → α → Int) : Nat → List (α × Int) → List (α × Int)
  | 0, _ => []
  | _, [] => []
  | k + 1, x :: t => (x.1, x.2 + ((t.takeWhile fun y => eqR cf x.1 y.1).map (·.2)).sum) :: grpF cf k (t.dropWhile fun y => eqR cf x.1 y.1)
theorem grpF_eq {α : Type} (cf : α → α → Int) : ∀ (k : Nat) (l : List (α × Int)), l.length ≤ k → grpF cf k l = grp cf l
  | 0, [], _ => grp_nil.symm
  | k + 1, [], _ => grp_nil.symm
  | 0, x :: t, h => by simp at h
  | k + 1, x :: t, h => by
    have hsub := (List.dropWhile_sublist (l := t) (fun y => eqR cf x.1 y.1)).length_le
    rw [grp_cons, grpF, grpF_eq cf k _ (by simp at h; omega)]
theorem makeP_lit {l : List S35} (ys zs : List (List S56 × Int)) (hp : ys.Perm (l.map prE)) (hs : SrtL cT ys) (hok : (l.map prE).all (fun x => okR x.1) = true) (hg : grpF cT ys.length ys = zs) : sums cT (l.map prE) = zs := by
  rw [← hg, grpF_eq cT _ _ (Nat.le_refl _)]
  exact (grp_sums cT_ord okR cT_same hp hs (fun x hx => List.all_eq_true.1 hok x hx)).symm
theorem perm4 {α : Type} (a b c d : α) : [b, d, a, c].Perm [a, b, c, d] :=
  (((List.Perm.swap a b [c, d]).symm.trans (((((List.Perm.swap c d []).symm.cons a).trans (List.Perm.swap a d [c]).symm)).cons b).symm.symm).symm : [b, d, a, c].Perm [a, b, c, d])
abbrev nR (n : Int) : List S56 := [⟨2, n, 0, ⟨#[]⟩⟩]
abbrev nE (n w : Int) : S35 := ⟨nR n, w⟩
theorem aw_make : xMake.f [nE 2 1, nE 1 3, nE 2 (-1), nE 1 2] = some ([nE 1 5], 0) := by
  have h := makeP_lit (l := [nE 2 1, nE 1 3, nE 2 (-1), nE 1 2]) [(nR 1, 3), (nR 1, 2), (nR 2, 1), (nR 2, -1)] [(nR 1, 5), (nR 2, 0)] (perm4 _ _ _ _) (by unfold SrtL; decide) (by kernel_rfl) (by kernel_rfl)
  unfold xMake.f makeP
  rw [h]
  show _ = _
  kernel_rfl
theorem aw_sums2 : sums cT (([nE 1 5] ++ [nE 0 1]).map prE) = [(nR 0, 1), (nR 1, 5)] :=
  makeP_lit (l := [nE 1 5] ++ [nE 0 1]) [(nR 0, 1), (nR 1, 5)] _ (List.Perm.swap _ _ _) (by unfold SrtL; decide) (by kernel_rfl) (by kernel_rfl)
theorem aw_add : xAdd.f [nE 1 5] [nE 0 1] = some ([nE 0 1, nE 1 5], 0) := by
  have hs : (soundZ [nE 1 5] && soundZ [nE 0 1]) = true := by kernel_rfl
  unfold xAdd.f addP makeP
  rw [hs, aw_sums2]
  show _ = _
  kernel_rfl
theorem aw_dist : zset_Distinct.f 10 [nE 1 (-2), nE 2 7] = some ([nE 2 1], 0) := by kernel_rfl
theorem aw_neg : zset_Neg.f 10 [nE 1 5] = some ([nE 1 (-5)], 0) := by kernel_rfl
theorem aw_sums3 : sums cT (([nE 0 1, nE 1 5] ++ [nE 1 (-5)]).map prE) = [(nR 0, 1), (nR 1, 0)] :=
  makeP_lit (l := [nE 0 1, nE 1 5] ++ [nE 1 (-5)]) [(nR 0, 1), (nR 1, 5), (nR 1, -5)] _ (List.Perm.refl _) (by unfold SrtL; decide) (by kernel_rfl) (by kernel_rfl)
theorem aw_sub : zset_Sub.f 10 [nE 0 1, nE 1 5] [nE 1 5] = some ([nE 0 1], 0) := by
  have hs : (soundZ [nE 0 1, nE 1 5] && soundZ [nE 1 (-5)]) = true := by kernel_rfl
  have hx : xAdd.f [nE 0 1, nE 1 5] [nE 1 (-5)] = some ([nE 0 1], 0) := by
    unfold xAdd.f addP makeP
    rw [hs, aw_sums3]
    show _ = _
    kernel_rfl
  unfold zset_Sub.f
  rw [aw_neg]
  simp only [Option.bind_some, if_true]
  rw [hx]; rfl
theorem aw_show : zset_Show.f 10 [nE 0 1, nE 1 5] = some ⟨#[40, 48, 41, 120, 49, 32, 40, 49, 41, 120, 53]⟩ := by kernel_rfl
theorem aw_weight : xWeight.f [nE 0 1, nE 1 5] (nR 1) = some 5 := by kernel_rfl
theorem aw_sound : xZSound.f [nE 0 1, nE 1 5] = some true := by kernel_rfl
end Go.Proofs.YthpkjkcfhipjhaaDoor
end
section
namespace Go.Proofs.YthpkjkcfhipjhaaDoor
set_option linter.unusedVariables false
set_option linter.unusedSimpArgs false
open Go.RowKit Go.Proofs.YthpkjkcfhipjhaaDoorW.PrintWords Go.Proofs.YthpkjkcfhipjhaaDoorW.PrintLast PRW PZA PZB
/-- a world with rows and multisets that lie in it -/
structure St (w0 W : World) (L : List (Option Addr × Nat × List S56)) (M : List (Option Addr × Nat × List S35)) : Prop where
  bel : Below w0.heap.size w0 W
  tab : RTab W
  rows : ∀ t ∈ L, t.2.2.length ≤ t.2.1 ∧ Kd.C k56 W t.1 t.2.2.length t.2.2
  ents : ∀ t ∈ M, t.2.2.length ≤ t.2.1 ∧ Kd.C k35 W t.1 t.2.2.length t.2.2
section
variable {w0 W W' : World} {L : List (Option Addr × Nat × List S56)} {M : List (Option Addr × Nat × List S35)}
theorem St.below (h : St w0 W L M) (hb : Below W.heap.size W W') : St w0 W' L M :=
  ⟨h.bel.trans (hb.mono h.bel.size), h.tab.below hb, fun t ht => ⟨(h.rows t ht).1, Kd.C_below (h.rows t ht).2 hb⟩, fun t ht => ⟨(h.ents t ht).1, Kd.C_below (h.ents t ht).2 hb⟩⟩
theorem St.row (h : St w0 W L M) {A : Option Addr} {c : Nat} {r : List S56} (hc : r.length ≤ c) (hC : Kd.C k56 W A r.length r) : St w0 W ((A, c, r) :: L) M :=
  ⟨h.bel, h.tab, fun t ht => by
    rcases List.mem_cons.1 ht with rfl | ht
    · exact ⟨hc, hC⟩
    · exact h.rows t ht, h.ents⟩
theorem St.ent (h : St w0 W L M) {A : Option Addr} {c : Nat} {r : List S35} (hc : r.length ≤ c) (hC : Kd.C k35 W A r.length r) : St w0 W L ((A, c, r) :: M) :=
  ⟨h.bel, h.tab, h.rows, fun t ht => by
    rcases List.mem_cons.1 ht with rfl | ht
    · exact ⟨hc, hC⟩
    · exact h.ents t ht⟩
def flatP (ps : List ((Option Addr × Nat × List S56) × Int)) : List Value := ps.flatMap fun p => [.slice p.1.1 p.1.2.2.length p.1.2.1, .int .i64 p.2]
theorem flatP_at : ∀ (ps : List ((Option Addr × Nat × List S56) × Int)) (j : Nat) (p : (Option Addr × Nat × List S56) × Int), ps[j]? = some p → (flatP ps)[j * 2]? = some (.slice p.1.1 p.1.2.2.length p.1.2.1) ∧ (flatP ps)[j * 2 + 1]? = some (.int .i64 p.2)
  | [], j, p, h => by simp at h
  | q :: t, 0, p, h => by simp at h; subst h; exact ⟨rfl, rfl⟩
  | q :: t, j + 1, p, h => by
    have := flatP_at t j p (by simpa using h)
    rw [show (j + 1) * 2 = j * 2 + 1 + 1 by omega]
    exact this
/-- a row of entries that is made of rows that lie -/
theorem St.lit (h : St w0 W L M) (ps : List ((Option Addr × Nat × List S56) × Int)) (hp : ∀ p ∈ ps, p.1 ∈ L) (hl : ps.length ≤ 9223372036854775807) :
    St w0 (W.alloc (.cells (flatP ps).toArray 35 (0, 0))) L ((some ⟨W.heap.size, 0, none⟩, ps.length, ps.map fun p => (⟨p.1.2.2, p.2⟩ : S35)) :: M) := by
  have hb : Below W.heap.size W (W.alloc (.cells (flatP ps).toArray 35 (0, 0))) := (Below.refl _ _).alloc (Nat.le_refl _) _
  refine (h.below hb).ent (by simp) ?_
  refine ⟨rfl, by simpa using hl, fun _ => ⟨_, rfl, fun j x hx => ?_⟩⟩
  rw [List.getElem?_map] at hx
  obtain ⟨p, hpj, rfl⟩ := Option.map_eq_some_iff.1 hx
  obtain ⟨q1, q2⟩ := flatP_at ps j p hpj
  obtain ⟨r1, r2⟩ := h.rows _ (hp p (List.mem_of_getElem? hpj))
  refine ⟨[.slice p.1.1 p.1.2.2.length p.1.2.1, .int .i64 p.2], rfl, k35_mk _ ⟨p.1.2.2, p.2⟩ r1 (Kd.C_below r2 hb), fun i u hu => ?_⟩
  have hblk := heap_alloc_new W (.cells (flatP ps).toArray 35 (0, 0))
  match i, hu with
  | 0, hu =>
    cases Option.some.inj hu
    show (W.alloc _).cell? ((⟨W.heap.size, 0, none⟩ : Addr).add (j * 2)) = _
    have : ((⟨W.heap.size, 0, none⟩ : Addr).add (j * 2)) = ⟨W.heap.size, j * 2, none⟩ := by
      unfold Addr.add; split <;> simp_all
    rw [this, blk_cell hblk, List.getElem?_toArray]; exact q1
  | 1, hu =>
    cases Option.some.inj hu
    show (W.alloc _).cell? ((⟨W.heap.size, 0, none⟩ : Addr).add (j * 2 + 1)) = _
    have : ((⟨W.heap.size, 0, none⟩ : Addr).add (j * 2 + 1)) = ⟨W.heap.size, j * 2 + 1, none⟩ := by
      unfold Addr.add; split <;> simp_all
    rw [this, blk_cell hblk, List.getElem?_toArray]; exact q2
theorem num_s (h : St w0 W L M) (a b : Int) : Calls Tryd.prog 19 #[.int .i64 a, .int .i64 b] W fun e w' => ∃ A c, e = .returned (.agg #[.slice A 1 c, .int .i64 b]) ∧ St w0 w' ((A, c, nR a) :: L) M := by
  refine (freshetlaw03_num.calls a b (nR a) b W rfl).mono ?_
  rintro e w' ⟨v, rfl, hR, hb⟩
  obtain ⟨A, c, rfl, hc, hC⟩ := Kd.R_reads hR
  exact ⟨A, c, rfl, (h.below hb).row hc hC⟩
theorem res_s {r1 : List S35} {r2 : Int} {f : FuncId} {args : Array Value} (h : St w0 W L M) (hc : Calls Tryd.prog f args W fun e w' => ∃ v0_ : Value, e = .returned (.tuple #[v0_, .int .i64 r2]) ∧ Kd.R k35 35 w' W.heap.size (fun _ => True) v0_ r1 ∧ Below W.heap.size W w') (n : Nat) (hn : r1.length = n) :
    Calls Tryd.prog f args W fun e w' => ∃ A c, e = .returned (.tuple #[.slice A n c, .int .i64 r2]) ∧ St w0 w' L ((A, c, r1) :: M) := by
  refine hc.mono ?_
  rintro e w' ⟨v, rfl, hR, hb⟩
  obtain ⟨A, c, rfl, hc, hC⟩ := Kd.R_reads hR
  exact ⟨A, c, by rw [hn], (h.below hb).ent hc hC⟩
theorem make_s (h : St w0 W L M) {A : Option Addr} {c : Nat} {l r1 : List S35} {r2 : Int} (hm : (A, c, l) ∈ M) (hf : xMake.f l = some (r1, r2)) (m n : Nat) (hl : l.length = m) (hn : r1.length = n) :
    Calls Tryd.prog 15 #[.slice A m c] W fun e w' => ∃ A c, e = .returned (.tuple #[.slice A n c, .int .i64 r2]) ∧ St w0 w' L ((A, c, r1) :: M) := by
  subst hl; exact res_s h (xMake.calls A c l r1 r2 W (h.ents _ hm).2 (h.ents _ hm).1 hf) n hn
theorem dist_s (h : St w0 W L M) {A : Option Addr} {c : Nat} {l r1 : List S35} {r2 : Int} (hm : (A, c, l) ∈ M) (hf : zset_Distinct.f 10 l = some (r1, r2)) (m n : Nat) (hl : l.length = m) (hn : r1.length = n) :
    Calls Tryd.prog 18 #[.slice A m c] W fun e w' => ∃ A c, e = .returned (.tuple #[.slice A n c, .int .i64 r2]) ∧ St w0 w' L ((A, c, r1) :: M) := by
  subst hl; exact res_s h (zset_Distinct.calls 10 A c l r1 r2 W (h.ents _ hm).2 (h.ents _ hm).1 hf) n hn
theorem neg_s (h : St w0 W L M) {A : Option Addr} {c : Nat} {l r1 : List S35} {r2 : Int} (hm : (A, c, l) ∈ M) (hf : zset_Neg.f 10 l = some (r1, r2)) (m n : Nat) (hl : l.length = m) (hn : r1.length = n) :
    Calls Tryd.prog 20 #[.slice A m c] W fun e w' => ∃ A c, e = .returned (.tuple #[.slice A n c, .int .i64 r2]) ∧ St w0 w' L ((A, c, r1) :: M) := by
  subst hl; exact res_s h (zset_Neg.calls 10 A c l r1 r2 W (h.ents _ hm).2 (h.ents _ hm).1 hf) n hn
theorem add_s (h : St w0 W L M) {A B : Option Addr} {c d : Nat} {l k r1 : List S35} {r2 : Int} (hm : (A, c, l) ∈ M) (hk : (B, d, k) ∈ M) (hf : xAdd.f l k = some (r1, r2)) (m m' n : Nat) (hl : l.length = m) (hl' : k.length = m') (hn : r1.length = n) :
    Calls Tryd.prog 12 #[.slice A m c, .slice B m' d] W fun e w' => ∃ A c, e = .returned (.tuple #[.slice A n c, .int .i64 r2]) ∧ St w0 w' L ((A, c, r1) :: M) := by
  subst hl; subst hl'; exact res_s h (xAdd.calls A c l B d k r1 r2 W (h.ents _ hm).2 (h.ents _ hm).1 (h.ents _ hk).2 (h.ents _ hk).1 hf) n hn
theorem sub_s (h : St w0 W L M) {A B : Option Addr} {c d : Nat} {l k r1 : List S35} {r2 : Int} (hm : (A, c, l) ∈ M) (hk : (B, d, k) ∈ M) (hf : zset_Sub.f 10 l k = some (r1, r2)) (m m' n : Nat) (hl : l.length = m) (hl' : k.length = m') (hn : r1.length = n) :
    Calls Tryd.prog 14 #[.slice A m c, .slice B m' d] W fun e w' => ∃ A c, e = .returned (.tuple #[.slice A n c, .int .i64 r2]) ∧ St w0 w' L ((A, c, r1) :: M) := by
  subst hl; subst hl'; exact res_s h (zset_Sub.calls 10 A c l B d k r1 r2 W (h.ents _ hm).2 (h.ents _ hm).1 (h.ents _ hk).2 (h.ents _ hk).1 hf) n hn
theorem same_s (h : St w0 W L M) {A B : Option Addr} {c d : Nat} {l : List S35} (hm : (A, c, l) ∈ M) (hk : (B, d, l) ∈ M) (hl0 : shortE l) (m : Nat) (hl : l.length = m) :
    Calls Tryd.prog 13 #[.slice A m c, .slice B m d] W fun e w' => e = .returned (.bool true) ∧ St w0 w' L M := by
  subst hl
  obtain ⟨k, hf⟩ := zsame_ev l l hl0
  have hf := hf k (Nat.le_refl _)
  rw [decide_eq_true rfl] at hf
  refine (freshetref03_Same.calls k A c l B d l true W (h.ents _ hm).2 (h.ents _ hm).1 (h.ents _ hk).2 (h.ents _ hk).1 hf).mono ?_
  rintro e w' ⟨rfl, hd⟩
  exact ⟨rfl, h.below hd.below⟩
theorem show_s (h : St w0 W L M) {A : Option Addr} {c : Nat} {l : List S35} {r : ByteArray} (hm : (A, c, l) ∈ M) (hf : zset_Show.f 10 l = some r) (m : Nat) (hl : l.length = m) :
    Calls Tryd.prog 21 #[.slice A m c] W fun e w' => e = .returned (.string r) ∧ St w0 w' L M := by
  subst hl
  refine (zset_Show.calls 10 A c l r W (h.ents _ hm).2 (h.ents _ hm).1 h.tab hf).mono ?_
  rintro e w' ⟨rfl, hb⟩
  exact ⟨rfl, h.below hb⟩
theorem sound_s (h : St w0 W L M) {A : Option Addr} {c : Nat} {l : List S35} {r : Bool} (hm : (A, c, l) ∈ M) (hf : xZSound.f l = some r) (m : Nat) (hl : l.length = m) :
    Calls Tryd.prog 11 #[.slice A m c] W fun e w' => e = .returned (.bool r) ∧ St w0 w' L M := by
  subst hl
  refine (xZSound.calls A c l r W (h.ents _ hm).2 (h.ents _ hm).1 hf).mono ?_
  rintro e w' ⟨rfl, hb⟩
  exact ⟨rfl, h.below hb⟩
theorem weight_s (h : St w0 W L M) {A B : Option Addr} {c d : Nat} {l : List S35} {q : List S56} {r : Int} (hm : (A, c, l) ∈ M) (hq : (B, d, q) ∈ L) (hf : xWeight.f l q = some r) (m m' : Nat) (hl : l.length = m) (hl' : q.length = m') :
    Calls Tryd.prog 17 #[.slice A m c, .slice B m' d] W fun e w' => e = .returned (.int .i64 r) ∧ St w0 w' L M := by
  subst hl; subst hl'
  refine (xWeight.calls A c l B d q r W (h.ents _ hm).2 (h.ents _ hm).1 (h.rows _ hq).2 (h.rows _ hq).1 hf).mono ?_
  rintro e w' ⟨rfl, hb⟩
  exact ⟨rfl, h.below hb⟩
end
theorem field_row (W : World) (A : Option Addr) (n c : Nat) (x : Value) : (Instr.field 35 (.agg #[.slice A n c, x]) 0).run Tryd.prog W = .ok (.slice A n c) W := by
  have hu := run_underlying Tryd.underlying35
  have h1 : (Go.sizeOf 33).run Tryd.prog W = .ok 1 W := by kernel_rfl
  have h2 : (isAgg 33).run Tryd.prog W = .ok false W := by kernel_rfl
  simp [Instr.field, hu, part, asAgg, h1, h2, go_sem]
theorem shortE_n (l : List S35) (h : l.length ≤ 1000000 ∧ (l.all fun x => decide (x.f0.length ≤ 1024)) = true) : shortE l := ⟨h.1, fun x hx => by
  have := of_decide_eq_true (List.all_eq_true.1 h.2 x hx); omega⟩
set_option maxRecDepth 1000000 in
set_option maxHeartbeats 16000000 in
theorem awake3_c (w : World) (hT : RTab w) : Calls Tryd.prog 10 #[] w fun e w' => e = .returned (.bool true) ∧ Below w.heap.size w w' := by
  have HS0 := hidF (show St w w [] [] from ⟨Below.refl _ _, hT, fun t ht => absurd ht List.not_mem_nil, fun t ht => absurd ht List.not_mem_nil⟩)
  clear hT
  have hu := Tryd.underlying35
  have hfld := field_row
  go_enter Tryd.func10, Tryd.ntmps10
  go_wp2_with fail
  (with_reducible refine (num_s HS0.out (2) (1)).mono ?_)
  rintro e w1 ⟨A1, c1, rfl, hS⟩
  have HS1 := hidF hS
  clear hS
  go_wp2_with fail
  (with_reducible refine (num_s HS1.out (1) (3)).mono ?_)
  rintro e w2 ⟨A2, c2, rfl, hS⟩
  have HS2 := hidF hS
  clear hS
  go_wp2_with fail
  (with_reducible refine (num_s HS2.out (2) (-1)).mono ?_)
  rintro e w3 ⟨A3, c3, rfl, hS⟩
  have HS3 := hidF hS
  clear hS
  go_wp2_with fail
  (with_reducible refine (num_s HS3.out (1) (2)).mono ?_)
  rintro e w4 ⟨A4, c4, rfl, hS⟩
  have HS4 := hidF hS
  clear hS
  have HSL := hidF (show St w (w4.alloc (.cells #[.slice A1 1 c1, .int .i64 (1), .slice A2 1 c2, .int .i64 (3), .slice A3 1 c3, .int .i64 (-1), .slice A4 1 c4, .int .i64 (2)] 35 (0, 0))) _ _ from HS4.out.lit [((A1, c1, nR (2)), (1)), ((A2, c2, nR (1)), (3)), ((A3, c3, nR (2)), (-1)), ((A4, c4, nR (1)), (2))] (by simp) (by simp))
  clear HS4
  have HS4 := HSL
  clear HSL
  go_wp2_with fail
  (with_reducible refine (make_s HS4.out (l := [nE 2 1, nE 1 3, nE 2 (-1), nE 1 2]) (by simp) aw_make 4 1 rfl rfl).mono ?_)
  rintro e w5 ⟨A5, c5, rfl, hS⟩
  have HS5 := hidF hS
  clear hS
  go_wp2_with fail
  (with_reducible refine (num_s HS5.out (0) (1)).mono ?_)
  rintro e w6 ⟨A6, c6, rfl, hS⟩
  have HS6 := hidF hS
  clear hS
  have HSL := hidF (show St w (w6.alloc (.cells #[.slice A6 1 c6, .int .i64 (1)] 35 (0, 0))) _ _ from HS6.out.lit [((A6, c6, nR (0)), (1))] (by simp) (by simp))
  clear HS6
  have HS6 := HSL
  clear HSL
  go_wp2_with fail
  (with_reducible refine (add_s HS6.out (l := [nE 1 5]) (k := [nE 0 1]) (by simp) (by simp) aw_add 1 1 2 rfl rfl rfl).mono ?_)
  rintro e w7 ⟨A7, c7, rfl, hS⟩
  have HS7 := hidF hS
  clear hS
  go_wp2_with fail
  (with_reducible refine (num_s HS7.out (1) (-2)).mono ?_)
  rintro e w8 ⟨A8, c8, rfl, hS⟩
  have HS8 := hidF hS
  clear hS
  go_wp2_with fail
  (with_reducible refine (num_s HS8.out (2) (7)).mono ?_)
  rintro e w9 ⟨A9, c9, rfl, hS⟩
  have HS9 := hidF hS
  clear hS
  have HSL := hidF (show St w (w9.alloc (.cells #[.slice A8 1 c8, .int .i64 (-2), .slice A9 1 c9, .int .i64 (7)] 35 (0, 0))) _ _ from HS9.out.lit [((A8, c8, nR (1)), (-2)), ((A9, c9, nR (2)), (7))] (by simp) (by simp))
  clear HS9
  have HS9 := HSL
  clear HSL
  go_wp2_with fail
  (with_reducible refine (dist_s HS9.out (l := [nE 1 (-2), nE 2 7]) (by simp) aw_dist 2 1 rfl rfl).mono ?_)
  rintro e w10 ⟨A10, c10, rfl, hS⟩
  have HS10 := hidF hS
  clear hS
  go_wp2_with fail
  (with_reducible refine (neg_s HS10.out (l := [nE 1 5]) (by simp) aw_neg 1 1 rfl rfl).mono ?_)
  rintro e w11 ⟨A11, c11, rfl, hS⟩
  have HS11 := hidF hS
  clear hS
  go_wp2_with fail
  (with_reducible refine (sub_s HS11.out (l := [nE 0 1, nE 1 5]) (k := [nE 1 5]) (by simp) (by simp) aw_sub 2 1 1 rfl rfl rfl).mono ?_)
  rintro e w12 ⟨A12, c12, rfl, hS⟩
  have HS12 := hidF hS
  clear hS
  go_wp2_with fail
  (with_reducible refine (num_s HS12.out (1) (5)).mono ?_)
  rintro e w13 ⟨A13, c13, rfl, hS⟩
  have HS13 := hidF hS
  clear hS
  have HSL := hidF (show St w (w13.alloc (.cells #[.slice A13 1 c13, .int .i64 (5)] 35 (0, 0))) _ _ from HS13.out.lit [((A13, c13, nR (1)), (5))] (by simp) (by simp))
  clear HS13
  have HS13 := HSL
  clear HSL
  go_wp2_with fail
  (with_reducible refine (same_s HS13.out (l := [nE 1 5]) (by simp) (by simp) (shortE_n _ (by decide)) 1 rfl).mono ?_)
  rintro e w14 ⟨rfl, hS⟩
  have HS14 := hidF hS
  clear hS
  go_wp2_with fail
  (with_reducible refine (show_s HS14.out (l := [nE 0 1, nE 1 5]) (by simp) aw_show 2 rfl).mono ?_)
  rintro e w15 ⟨rfl, hS⟩
  have HS15 := hidF hS
  clear hS
  go_wp2_with fail
  (with_reducible refine (num_s HS15.out (2) (1)).mono ?_)
  rintro e w16 ⟨A16, c16, rfl, hS⟩
  have HS16 := hidF hS
  clear hS
  have HSL := hidF (show St w (w16.alloc (.cells #[.slice A16 1 c16, .int .i64 (1)] 35 (0, 0))) _ _ from HS16.out.lit [((A16, c16, nR (2)), (1))] (by simp) (by simp))
  clear HS16
  have HS16 := HSL
  clear HSL
  go_wp2_with fail
  (with_reducible refine (same_s HS16.out (l := [nE 2 1]) (by simp) (by simp) (shortE_n _ (by decide)) 1 rfl).mono ?_)
  rintro e w17 ⟨rfl, hS⟩
  have HS17 := hidF hS
  clear hS
  go_wp2_with fail
  (with_reducible refine (num_s HS17.out (1) (-5)).mono ?_)
  rintro e w18 ⟨A18, c18, rfl, hS⟩
  have HS18 := hidF hS
  clear hS
  have HSL := hidF (show St w (w18.alloc (.cells #[.slice A18 1 c18, .int .i64 (-5)] 35 (0, 0))) _ _ from HS18.out.lit [((A18, c18, nR (1)), (-5))] (by simp) (by simp))
  clear HS18
  have HS18 := HSL
  clear HSL
  go_wp2_with fail
  (with_reducible refine (same_s HS18.out (l := [nE 1 (-5)]) (by simp) (by simp) (shortE_n _ (by decide)) 1 rfl).mono ?_)
  rintro e w19 ⟨rfl, hS⟩
  have HS19 := hidF hS
  clear hS
  go_wp2_with fail
  (with_reducible refine (num_s HS19.out (0) (1)).mono ?_)
  rintro e w20 ⟨A20, c20, rfl, hS⟩
  have HS20 := hidF hS
  clear hS
  have HSL := hidF (show St w (w20.alloc (.cells #[.slice A20 1 c20, .int .i64 (1)] 35 (0, 0))) _ _ from HS20.out.lit [((A20, c20, nR (0)), (1))] (by simp) (by simp))
  clear HS20
  have HS20 := HSL
  clear HSL
  go_wp2_with fail
  (with_reducible refine (same_s HS20.out (l := [nE 0 1]) (by simp) (by simp) (shortE_n _ (by decide)) 1 rfl).mono ?_)
  rintro e w21 ⟨rfl, hS⟩
  have HS21 := hidF hS
  clear hS
  go_wp2_with fail
  (with_reducible refine (num_s HS21.out (1) (0)).mono ?_)
  rintro e w22 ⟨A22, c22, rfl, hS⟩
  have HS22 := hidF hS
  clear hS
  go_wp2_with fail
  (with_reducible refine (weight_s HS22.out (l := [nE 0 1, nE 1 5]) (q := nR 1) (by simp) (by simp) aw_weight 2 1 rfl rfl).mono ?_)
  rintro e w23 ⟨rfl, hS⟩
  have HS23 := hidF hS
  clear hS
  go_wp2_with fail
  (with_reducible refine (sound_s HS23.out (l := [nE 0 1, nE 1 5]) (by simp) aw_sound 2 rfl).mono ?_)
  rintro e w24 ⟨rfl, hS⟩
  have HS24 := hidF hS
  clear hS
  go_wp2_with fail
  go_ret
  exact ⟨rfl, HS24.out.bel⟩
end Go.Proofs.YthpkjkcfhipjhaaDoor
end
section
namespace Go.Proofs.YthpkjkcfhipjhaaDoor
set_option linter.unusedVariables false
set_option linter.unusedSimpArgs false
open Go.RowKit Go.Proofs.YthpkjkcfhipjhaaDoorW.PrintWords Go.Proofs.YthpkjkcfhipjhaaDoorW.PrintLast PRW PZA PZB
/-- the weight of a row -/
def Wt (l : List S35) (r : List S56) : Int := wt cT (l.map prE) r
theorem Wt_app (a b : List S35) (r : List S56) : Wt (a ++ b) r = Wt a r + Wt b r := by unfold Wt; rw [List.map_append, wt_app]
/-- a multiset whose numbers are in range -/
structure Zs (l : List S35) : Prop where
  rng : rngE l = true
  snd : soundZ l = true
theorem Zs.okR {l : List S35} (h : Zs l) : ∀ x ∈ l, Go.Proofs.YthpkjkcfhipjhaaDoor.okR x.f0 = true := fun x hx => by
  obtain ⟨_, _, h3, h4, _⟩ := (soundZ_parts h.rng h.snd).1 x hx
  exact okR_iff.2 ⟨h3, h4⟩
theorem Zs.zst {l : List S35} (h : Zs l) : Zst cT (l.map prE) := (soundZ_parts h.rng h.snd).2
theorem Zs.nz {l : List S35} (h : Zs l) : ∀ x ∈ l, x.f1 ≠ 0 := fun x hx => ((soundZ_parts h.rng h.snd).1 x hx).1
theorem Zs.fairs {l : List S35} (h : Zs l) : ∀ x ∈ l, fair x.f1 = true := fun x hx => ((soundZ_parts h.rng h.snd).1 x hx).2.1
theorem Zs.okE {l : List S35} (h : Zs l) : l.all okE = true := List.all_eq_true.2 fun x hx => by
  obtain ⟨_, h2, h3, _, _⟩ := (soundZ_parts h.rng h.snd).1 x hx
  unfold Go.Proofs.YthpkjkcfhipjhaaDoor.okE; rw [h2, h3]; rfl
theorem Zs.mem {l : List S35} (h : Zs l) : ∀ x ∈ l, Wt l x.f0 = x.f1 := fun x hx => h.zst.wt_mem cT_ord (prE x) (List.mem_map_of_mem hx)
theorem Zs.fairW {l : List S35} (h : Zs l) (r : List S56) : fair (Wt l r) = true := by
  cases hh : has cT (l.map prE) r
  · unfold Wt; rw [wt_none cT _ _ hh]; rfl
  · obtain ⟨y, hy, e⟩ := (has_iff cT _ _).1 hh
    obtain ⟨x, hx, rfl⟩ := List.mem_map.1 hy
    have : Wt l r = x.f1 := by rw [← h.mem x hx]; exact wt_cong cT_ord e _
    rw [this]; exact h.fairs x hx
theorem Zs.ext {a b : List S35} (ha : Zs a) (hb : Zs b) (h : ∀ r, Wt a r = Wt b r) : a = b := by
  have := z_ext cT_ord Go.Proofs.YthpkjkcfhipjhaaDoor.okR cT_same (a.map prE) (b.map prE) ha.zst hb.zst (fun x hx => by obtain ⟨y, hy, rfl⟩ := List.mem_map.1 hx; exact ha.okR y hy) (fun x hx => by obtain ⟨y, hy, rfl⟩ := List.mem_map.1 hx; exact hb.okR y hy)
    (fun x hx => by obtain ⟨y, hy, rfl⟩ := List.mem_map.1 hx; exact ha.nz y hy) (fun x hx => by obtain ⟨y, hy, rfl⟩ := List.mem_map.1 hx; exact hb.nz y hy) h
  have e := congrArg (fun l => l.map unE) this
  simp only [List.map_map] at e
  rwa [show (unE ∘ prE) = id from rfl, List.map_id, List.map_id] at e
theorem Zs.nil : Zs [] := ⟨rfl, rfl⟩
theorem Zs.mk' {l : List S35} (h1 : ∀ x ∈ l, x.f1 ≠ 0 ∧ fair x.f1 = true ∧ soundL x.f0 = true ∧ rngL x.f0 = true) (h2 : Zst cT (l.map prE)) : Zs l := by
  have hr : rngE l = true := rngE_of fun x hx => by
    obtain ⟨_, f, _, r⟩ := h1 x hx
    obtain ⟨f1, f2⟩ := fair_iff.1 f
    exact ⟨r, by omega, by omega⟩
  refine ⟨hr, (soundZ_iff l (fun x hx => (rngE_at hr x hx).1)).2 ⟨fun x hx => ?_, h2⟩⟩
  obtain ⟨a, b, c, _⟩ := h1 x hx
  exact ⟨a, by unfold Go.Proofs.YthpkjkcfhipjhaaDoor.okE; rw [b, c]; rfl⟩
/-- what Make answers, told by weights -/
theorem make_cases (l : List S35) (hr : rngE l = true) (hok : l.all okE = true) :
    ((∀ r, fair (Wt l r) = true) ∧ ∃ z, makeP l = (z, 0) ∧ Zs z ∧ (∀ r, Wt z r = Wt l r) ∧ z.length ≤ l.length) ∨ ((∃ r, fair (Wt l r) = false) ∧ makeP l = ([], 11)) := by
  have hval := sums_val cT_ord (l.map prE)
  have hrows := sums_rows cT_ord (l.map prE)
  have hlen : (sums cT (l.map prE)).length ≤ l.length := by
    have hg : ∀ (k : Nat) (q : List (List S56 × Int)), q.length ≤ k → (grp cT q).length ≤ q.length := by
      intro k
      induction k with
      | zero => intro q hq; rw [List.eq_nil_of_length_eq_zero (Nat.le_zero.1 hq), grp_nil]; exact Nat.le_refl _
      | succ k ih =>
        intro q hq
        cases q with
        | nil => rw [grp_nil]; exact Nat.le_refl _
        | cons x t =>
          have hs := (List.dropWhile_sublist (l := t) (fun y => eqR cT x.1 y.1)).length_le
          rw [grp_cons]
          have := ih (t.dropWhile fun y => eqR cT x.1 y.1) (by simp at hq; omega)
          simp; omega
    have := hg _ ((l.map prE).mergeSort (lePair cT)) (Nat.le_refl _)
    rw [List.length_mergeSort, List.length_map] at this
    exact this
  cases ha : (sums cT (l.map prE)).all (fun p => fair p.2)
  · right
    constructor
    · obtain ⟨p, hp, hf⟩ := List.all_eq_false.1 ha
      refine ⟨p.1, ?_⟩
      rw [hval p hp] at hf
      simpa [Wt] using hf
    · unfold makeP; rw [hok, ha]; rfl
  · left
    have hall := List.all_eq_true.1 ha
    refine ⟨fun r => ?_, (nz (sums cT (l.map prE))).map unE, by unfold makeP; rw [hok, ha]; rfl, ?_, ?_, ?_⟩
    · cases hh : has cT (l.map prE) r
      · unfold Wt; rw [wt_none cT _ _ hh]; rfl
      · rw [← sums_has cT_ord] at hh
        obtain ⟨y, hy, e⟩ := (has_iff cT _ _).1 hh
        have := hall y hy
        rw [hval y hy] at this
        unfold Wt; rw [wt_cong cT_ord e]; exact this
    · refine Zs.mk' (fun x hx => ?_) ?_
      · obtain ⟨p, hp, rfl⟩ := List.mem_map.1 hx
        obtain ⟨hp, hnz⟩ := nz_mem hp
        obtain ⟨y, hy, e⟩ := hrows p hp
        obtain ⟨z, hz, rfl⟩ := List.mem_map.1 hy
        have hz1 := List.all_eq_true.1 hok z hz
        unfold okE at hz1
        rw [Bool.and_eq_true] at hz1
        have e' : p.1 = z.f0 := e
        exact ⟨hnz, hall p hp, by show soundL p.1 = true; rw [e']; exact hz1.2, by show rngL p.1 = true; rw [e']; exact (rngE_at hr z hz).1⟩
      · rw [List.map_map, show (prE ∘ unE) = id from rfl, List.map_id]
        exact nz_zst (sums_zst cT_ord _)
    · intro r
      unfold Wt
      rw [List.map_map, show (prE ∘ unE) = id from rfl, List.map_id, nz_wt, sums_wt cT_ord]
    · rw [List.length_map]
      exact Nat.le_trans (List.length_filter_le _ _) hlen
theorem Zs.app {a b : List S35} (ha : Zs a) (hb : Zs b) : rngE (a ++ b) = true ∧ (a ++ b).all Go.Proofs.YthpkjkcfhipjhaaDoor.okE = true := by
  refine ⟨rngE_of fun x hx => ?_, by rw [List.all_append, ha.okE, hb.okE]; rfl⟩
  rcases List.mem_append.1 hx with hx | hx
  · exact rngE_at ha.rng x hx
  · exact rngE_at hb.rng x hx
theorem add_cases {a b : List S35} (ha : Zs a) (hb : Zs b) :
    ((∀ r, fair (Wt a r + Wt b r) = true) ∧ ∃ z, addP a b = (z, 0) ∧ Zs z ∧ (∀ r, Wt z r = Wt a r + Wt b r) ∧ z.length ≤ a.length + b.length) ∨ ((∃ r, fair (Wt a r + Wt b r) = false) ∧ addP a b = ([], 11)) := by
  have e : addP a b = makeP (a ++ b) := by unfold addP; rw [ha.snd, hb.snd]; rfl
  rw [e]
  obtain ⟨h1, h2⟩ := ha.app hb
  rcases make_cases (a ++ b) h1 h2 with ⟨h3, z, h4, h5, h6, h7⟩ | ⟨⟨r, h3⟩, h4⟩
  · left
    exact ⟨fun r => by rw [← Wt_app]; exact h3 r, z, h4, h5, fun r => by rw [h6, Wt_app], by rw [← List.length_append]; exact h7⟩
  · right
    exact ⟨⟨r, by rw [← Wt_app]; exact h3⟩, h4⟩
theorem add_ok {a b : List S35} (ha : Zs a) (hb : Zs b) (h : ∀ r, fair (Wt a r + Wt b r) = true) : ∃ z, addP a b = (z, 0) ∧ Zs z ∧ (∀ r, Wt z r = Wt a r + Wt b r) ∧ z.length ≤ a.length + b.length := by
  rcases add_cases ha hb with ⟨_, h2⟩ | ⟨⟨r, h2⟩, _⟩
  · exact h2
  · rw [h r] at h2; cases h2
theorem neg_ok {a : List S35} (ha : Zs a) : negP a = (a.map negE, 0) ∧ Zs (a.map negE) ∧ ∀ r, Wt (a.map negE) r = - Wt a r := by
  have hw : ∀ (l : List S35) r, Wt (l.map negE) r = - Wt l r := fun l r => by
    induction l with
    | nil => rfl
    | cons x t ih =>
      unfold Wt at ih ⊢
      rw [List.map_cons, List.map_cons, List.map_cons, wt_cons, wt_cons, ih]
      show (if eqR cT r x.f0 then -x.f1 else 0) + _ = _
      show _ = -((if eqR cT r x.f0 then x.f1 else 0) + _)
      split <;> omega
  refine ⟨by unfold negP; rw [ha.snd]; rfl, Zs.mk' (fun x hx => ?_) ?_, hw a⟩
  · obtain ⟨y, hy, rfl⟩ := List.mem_map.1 hx
    obtain ⟨h1, h2, h3, h4, _⟩ := (soundZ_parts ha.rng ha.snd).1 y hy
    obtain ⟨f1, f2⟩ := fair_iff.1 h2
    exact ⟨by show -y.f1 ≠ 0; omega, fair_iff.2 ⟨by show _ ≤ -y.f1; omega, by show -y.f1 ≤ _; omega⟩, h3, h4⟩
  · have := ha.zst
    rw [Zst, List.pairwise_map] at this ⊢
    rw [List.pairwise_map]
    exact this
end Go.Proofs.YthpkjkcfhipjhaaDoor
end
section
namespace Go.Proofs.YthpkjkcfhipjhaaDoor
set_option linter.unusedVariables false
set_option linter.unusedSimpArgs false
open Go.RowKit Go.Proofs.YthpkjkcfhipjhaaDoorW.PrintWords Go.Proofs.YthpkjkcfhipjhaaDoorW.PrintLast PRW PZA PZB
def shV (x : S56) : List UInt8 := showL x.f0 x.f1 x.f2 x.f3
def showR (l : List S56) : List UInt8 := if soundL l then 40 :: (Lib.join (l.map shV) [44, 32] ++ [41]) else []
theorem hexP_length : ∀ n u, (hexP n u).length = n
  | 0, _ => rfl
  | n + 1, u => by simp [hexP, hexP_length n]
theorem shV_len (x : S56) (hn : I64 x.f1) : (shV x).length ≤ 16386 := by
  unfold shV showL
  cases hs : soundV x.f0 x.f1 x.f2 x.f3
  · simp
  · simp only [Bool.not_true, Bool.false_eq_true, if_false]
    by_cases h0 : x.f0 = 0
    · rw [if_pos h0]; decide
    · rw [if_neg h0]
      by_cases h1 : x.f0 = 1
      · rw [if_pos h1]; cases (x.f1 == 1) <;> decide
      · rw [if_neg h1]
        by_cases h2 : x.f0 = 2
        · rw [if_pos h2]
          have := Lib.itoa_length_le x.f1 hn.1 hn.2
          omega
        · rw [if_neg h2]
          by_cases h4 : x.f0 = 4
          · rw [if_pos h4]
            have e := hs
            rw [h4] at e
            simp [soundV, eqV] at e
            have h5 := escs_len x.f3.data.toList
            have h6 := Lib.size_eq x.f3
            unfold quotedL
            rw [List.length_cons, List.length_append]
            have e4 := e.2
            simp only [List.length_cons, List.length_nil]
            omega
          · rw [if_neg h4, List.length_append, hexP_length]; decide
theorem jt_len1 (B : Nat) : ∀ r : List (List UInt8), (∀ x ∈ r, x.length ≤ B) → (Lib.joinTail [32] r).length ≤ (B + 2) * r.length
  | [], _ => by simp [Lib.joinTail]
  | y :: r, h => by
    have ih := jt_len1 B r (fun x hx => h x (List.mem_cons_of_mem _ hx))
    have hy := h y List.mem_cons_self
    have e : Lib.joinTail [32] (y :: r) = [32] ++ y ++ Lib.joinTail [32] r := by simp [Lib.joinTail]
    rw [e, List.length_append, List.length_append, show (y :: r).length = r.length + 1 from rfl, Nat.mul_succ]
    simp only [List.length_cons, List.length_nil]
    omega
theorem join_le1 (B : Nat) (xs : List (List UInt8)) (h : ∀ x ∈ xs, x.length ≤ B) : (Lib.join xs [32]).length ≤ (B + 2) * xs.length := by
  cases xs with
  | nil => simp [Lib.join_nil]
  | cons y r =>
    have h1 := jt_len1 B r (fun x hx => h x (List.mem_cons_of_mem _ hx))
    have hy := h y List.mem_cons_self
    rw [Lib.join_cons, List.length_append, List.length_cons, Nat.mul_succ]
    omega
theorem jt_len (B : Nat) : ∀ r : List (List UInt8), (∀ x ∈ r, x.length ≤ B) → (Lib.joinTail [44, 32] r).length ≤ (B + 2) * r.length
  | [], _ => by simp [Lib.joinTail]
  | y :: r, h => by
    have ih := jt_len B r (fun x hx => h x (List.mem_cons_of_mem _ hx))
    have hy := h y List.mem_cons_self
    have e : Lib.joinTail [44, 32] (y :: r) = [44, 32] ++ y ++ Lib.joinTail [44, 32] r := by simp [Lib.joinTail]
    rw [e, List.length_append, List.length_append, show (y :: r).length = r.length + 1 from rfl, Nat.mul_succ]
    simp only [List.length_cons, List.length_nil]
    omega
theorem join_le (B : Nat) (xs : List (List UInt8)) (h : ∀ x ∈ xs, x.length ≤ B) : (Lib.join xs [44, 32]).length ≤ (B + 2) * xs.length := by
  cases xs with
  | nil => simp [Lib.join_nil]
  | cons y r =>
    have h1 := jt_len B r (fun x hx => h x (List.mem_cons_of_mem _ hx))
    have hy := h y List.mem_cons_self
    rw [Lib.join_cons, List.length_append, List.length_cons, Nat.mul_succ]
    omega
theorem shows_le (l : List S56) (hr : rngL l = true) (n : Nat) : (Lib.join ((l.take n).map shV) [44, 32]).length ≤ 16388 * l.length := by
  have h := join_le 16386 ((l.take n).map shV) (fun x hx => by
    obtain ⟨y, hy, rfl⟩ := List.mem_map.1 hx
    exact shV_len y (rngL_I hr y (List.mem_of_mem_take hy)))
  rw [List.length_map, List.length_take] at h
  refine Nat.le_trans h (Nat.mul_le_mul_left _ (Nat.min_le_right _ _))
theorem show_ev (l : List S56) (hr : rngL l = true) : Ev (fun k => row_Show.f k l) (bs (showR l)) := by
  have hS : xRowSound.f l = some (soundL l) := by unfold xRowSound.f; rw [if_pos hr]
  cases hs : soundL l
  · have e : showR l = [] := by unfold showR; rw [hs]; rfl
    rw [e]
    refine Ev.congr (f := fun _ => some _) (fun k => ?_) (Ev.now _)
    simp only [row_Show.f]
    rw [hS, hs, Option.bind_some, if_neg Bool.false_ne_true]; rfl
  · have e : showR l = 40 :: (Lib.join (l.map shV) [44, 32] ++ [41]) := by unfold showR; rw [hs]; rfl
    rw [e]
    have nl := (sound_all hs hr).2
    have main : ∀ d i : Nat, i + d = l.length → Ev (fun k => row_Show.l0 k ((l.take i).map fun x => bs (shV x)) l (l.length : Int) (i : Int)) (bs (40 :: (Lib.join (l.map shV) [44, 32] ++ [41]))) := by
      intro d
      induction d with
      | zero =>
        intro i hi
        rw [List.take_of_length_le (by omega)]
        have hj := shows_le l hr l.length
        rw [List.take_of_length_le (by omega)] at hj
        have em : (l.map fun x => bs (shV x)).map (·.data.toList) = l.map shV := by rw [List.map_map]; rfl
        have hx : xJoin.f (l.map fun x => bs (shV x)) ⟨#[44, 32]⟩ = some (bs (Lib.join (l.map shV) [44, 32])) := by
          unfold xJoin.f
          rw [em, if_pos ⟨by rw [List.length_map]; omega, by show (Lib.join (l.map shV) [44, 32]).length ≤ _; omega⟩]; rfl
        refine Ev.step (f := fun _ => some _) (fun k => ?_) (Ev.now _)
        simp only [row_Show.l0]
        rw [if_neg (by omega), hx, Option.bind_some, if_pos (by rw [bs_size]; omega), if_pos (by rw [ByteArray.size_append, bs_size]; show 1 + _ + 1 ≤ _; omega)]
        congr 1
      | succ d ih =>
        intro i hi
        have h1 : i < l.length := by omega
        have hm := List.getElem_mem h1
        have hx : xShow.f (l[i]).f0 (l[i]).f1 (l[i]).f2 (l[i]).f3 = some (bs (shV l[i])) := by unfold xShow.f; exact if_pos ⟨rngL_I hr _ hm, rngL_U hr _ hm⟩
        have ih2 := ih (i + 1) (by omega)
        rw [List.take_succ_eq_append_getElem h1, List.map_append] at ih2
        refine Ev.step (fun k => ?_) ih2
        simp only [row_Show.l0]
        rw [if_pos (by omega), if_pos (by omega), if_pos (by omega), rd_at l i h1, hx, Option.bind_some, if_pos (by rw [List.length_map, List.length_take]; omega), w64k (by omega) (by omega)]
        rfl
    refine Ev.congr (fun k => ?_) (main l.length 0 (by omega))
    simp only [row_Show.f]
    rw [hS, hs, Option.bind_some, if_pos rfl, if_pos (by omega), if_pos (by omega)]; rfl
theorem bs_app2 (a b : List UInt8) : bs a ++ bs b = bs (a ++ b) := by apply ByteArray.ext; simp [bs]
theorem showR_len (l : List S56) (hr : rngL l = true) (hl : l.length ≤ 1024) : (showR l).length ≤ 16781314 := by
  unfold showR
  split
  · have h := shows_le l hr l.length
    rw [List.take_of_length_le (Nat.le_refl _)] at h
    simp only [List.length_cons, List.length_append, List.length_nil]
    omega
  · simp
def partZ (x : S35) : List UInt8 := showR x.f0 ++ [120] ++ Lib.itoa x.f1
def showZ (l : List S35) : List UInt8 := if soundZ l then Lib.join (l.map partZ) [32] else []
theorem zshow_ev (l : List S35) (hr : rngE l = true) (hl : l.length ≤ 1000) : Ev (fun k => zset_Show.f k l) (bs (showZ l)) := by
  have hS : xZSound.f l = some (soundZ l) := by unfold xZSound.f; rw [if_pos ⟨hr, by omega⟩]
  cases hs : soundZ l
  · have e : showZ l = [] := by unfold showZ; rw [hs]; rfl
    rw [e]
    refine Ev.congr (f := fun _ => some _) (fun k => ?_) (Ev.now _)
    unfold zset_Show.f
    rw [hS, hs, Option.bind_some, if_neg Bool.false_ne_true]; rfl
  · have e : showZ l = Lib.join (l.map partZ) [32] := by unfold showZ; rw [hs]; rfl
    rw [e]
    obtain ⟨hp, _⟩ := soundZ_parts hr hs
    have plen : ∀ x ∈ l, (partZ x).length ≤ 16781400 := fun x hx => by
      obtain ⟨_, _, _, h4, h5⟩ := hp x hx
      have h1 := showR_len x.f0 h4 h5
      have h2 := Lib.itoa_length_le x.f1 (rngE_at hr x hx).2.1 (rngE_at hr x hx).2.2
      unfold partZ
      rw [List.length_append, List.length_append]
      simp only [List.length_cons, List.length_nil]
      omega
    have main : ∀ d i : Nat, i + d = l.length → Ev (fun k => zset_Show.l0 k ((l.take i).map fun x => bs (partZ x)) l (l.length : Int) (i : Int)) (bs (Lib.join (l.map partZ) [32])) := by
      intro d
      induction d with
      | zero =>
        intro i hi
        rw [List.take_of_length_le (by omega)]
        have hj := join_le1 16781400 (l.map partZ) (fun x hx => by obtain ⟨y, hy, rfl⟩ := List.mem_map.1 hx; exact plen y hy)
        rw [List.length_map] at hj
        have em : (l.map fun x => bs (partZ x)).map (·.data.toList) = l.map partZ := by rw [List.map_map]; rfl
        have hx : xJoin.f (l.map fun x => bs (partZ x)) ⟨#[32]⟩ = some (bs (Lib.join (l.map partZ) [32])) := by
          unfold xJoin.f
          rw [em, if_pos ⟨by rw [List.length_map]; omega, by show (Lib.join (l.map partZ) [32]).length ≤ _; omega⟩]; rfl
        refine Ev.step (f := fun _ => some _) (fun k => ?_) (Ev.now _)
        simp only [zset_Show.l0]
        rw [if_neg (by omega), hx, Option.bind_some]
      | succ d ih =>
        intro i hi
        have h1 : i < l.length := by omega
        have hm := List.getElem_mem h1
        have ih2 := ih (i + 1) (by omega)
        rw [List.take_succ_eq_append_getElem h1, List.map_append] at ih2
        obtain ⟨_, _, _, h4, h5⟩ := hp _ hm
        have hrow := show_ev l[i].f0 h4
        have hrl := showR_len l[i].f0 h4 h5
        have hit := Lib.itoa_length_le l[i].f1 (rngE_at hr _ hm).2.1 (rngE_at hr _ hm).2.2
        have hI : xItoa.f l[i].f1 = some (bs (Lib.itoa l[i].f1)) := by unfold xItoa.f; exact if_pos (rngE_at hr _ hm).2
        have eb : bs (showR l[i].f0) ++ (⟨#[120]⟩ : ByteArray) = bs (showR l[i].f0 ++ [120]) := bs_app2 _ [120]
        refine Ev.step (f := fun k => (row_Show.f k l[i].f0).bind fun t136 => (if t136.size + 1 ≤ 9223372036854775807 then ((xItoa.f (l[i].f1)).bind fun t137 => (if (t136 ++ (⟨#[120]⟩ : ByteArray)).size + t137.size ≤ 9223372036854775807 then (zset_Show.l0 k (((l.take i).map fun x => bs (partZ x)) ++ [(t136 ++ (⟨#[120]⟩ : ByteArray)) ++ t137]) l (l.length : Int) ((i + 1 : Nat) : Int)) else none)) else none)) (fun k => ?_) (Ev.bind hrow ?_)
        · simp only [zset_Show.l0]
          rw [if_pos (by omega), if_pos (by omega), if_pos (by omega), rd_atE l i h1, w64k (by omega) (by omega)]
          have hz : (((l.take i).map fun x => bs (partZ x))).length < 8796093022208 := by rw [List.length_map, List.length_take]; omega
          simp only [if_pos hz]
          rfl
        · refine Ev.congr (fun k => ?_) ih2
          rw [if_pos (by rw [bs_size]; omega), hI, Option.bind_some, if_pos (by rw [eb, bs_size, bs_size, List.length_append]; simp only [List.length_cons, List.length_nil]; omega), eb, bs_app2]
          rfl
    refine Ev.congr (fun k => ?_) (main l.length 0 (by omega))
    unfold zset_Show.f
    rw [hS, hs, Option.bind_some, if_pos rfl, if_pos (by omega), if_pos (by omega)]; rfl
end Go.Proofs.YthpkjkcfhipjhaaDoor
end
section
namespace Go.Proofs.YthpkjkcfhipjhaaDoor
set_option linter.unusedVariables false
set_option linter.unusedSimpArgs false
open Go.RowKit Go.Proofs.YthpkjkcfhipjhaaDoorW.PrintWords Go.Proofs.YthpkjkcfhipjhaaDoorW.PrintLast PRW PZA PZB
def xAwake3.f : Option Bool := some true
theorem xAwake3.calls (r : Bool) (w : World) (hT : RTab w) (h : xAwake3.f = some r) :
    Calls Tryd.prog 10 #[] w fun e w' => e = .returned (.bool r) ∧ Below w.heap.size w w' := by
  cases Option.some.inj h
  exact awake3_c w hT
end Go.Proofs.YthpkjkcfhipjhaaDoor
end
section
namespace Go.Proofs.YthpkjkcfhipjhaaDoor
set_option linter.unusedVariables false
set_option linter.unusedSimpArgs false
open Go.RowKit Go.Proofs.YthpkjkcfhipjhaaDoorW.PrintWords Go.Proofs.YthpkjkcfhipjhaaDoorW.PrintLast PRW PZA PZB
/-- only blocks in ok have been written -/
structure Spoilt (ok : Nat → Prop) (w w' : World) : Prop where
  os : w'.os = w.os
  tape : w'.tape = w.tape
  output : w'.output = w.output
  size : w.heap.size ≤ w'.heap.size
  block : ∀ k, k < w.heap.size → ¬ ok k → w'.heap[k]? = w.heap[k]?
theorem Spoilt.refl (ok : Nat → Prop) (w : World) : Spoilt ok w w := ⟨rfl, rfl, rfl, Nat.le_refl _, fun _ _ _ => rfl⟩
theorem Spoilt.set {ok : Nat → Prop} {w w' : World} (h : Spoilt ok w w') {g o : Nat} (hg : ok g) (u : Value) : Spoilt ok w (w'.setCell ⟨g, o, none⟩ u) :=
  ⟨h.os, h.tape, h.output, by simpa [World.setCell] using h.size, fun k hk hn => (Below.heap_setCell w' ⟨g, o, none⟩ u k (fun e => hn (e ▸ hg))).trans (h.block k hk hn)⟩
theorem Spoilt.below {ok : Nat → Prop} {w w' : World} {B : Nat} (h : Spoilt ok w w') (hB : ∀ k, ok k → B ≤ k) (hw : B ≤ w.heap.size) : Below B w w' :=
  ⟨h.os, h.tape, h.output, h.size, fun k hk => h.block k (by omega) (fun e => by have := hB k e; omega)⟩
/-- the shape of a multiset of one's own, whatever it holds -/
structure Liv (w0 : World) (ok : Nat → Prop) (b : Nat) (rows : List (Option Addr × Nat × Nat)) (W : World) : Prop where
  sp : Spoilt ok w0 W
  okb : ok b
  blk : ∃ cs : Array Value, W.heap[b]? = some (.cells cs 35 (0, 0)) ∧ ∀ i t, rows[i]? = some t → cs[i * 2]? = some (.slice t.1 t.2.1 t.2.2) ∧ ∃ x, cs[i * 2 + 1]? = some x
  row : ∀ t ∈ rows, 0 < t.2.1 → ∃ g cs, t.1 = some ⟨g, 0, none⟩ ∧ W.heap[g]? = some (.cells cs 56 (0, 0)) ∧ t.2.1 * 4 ≤ cs.size ∧ ok g ∧ g ≠ b
section
variable {w0 W : World} {ok : Nat → Prop} {b : Nat} {rows : List (Option Addr × Nat × Nat)}
theorem Liv.lt (h : Liv w0 ok b rows W) : b < W.heap.size := by obtain ⟨cs, e, _⟩ := h.blk; exact heap_lt e
theorem Liv.setW (h : Liv w0 ok b rows W) (i : Nat) (u : Value) : Liv w0 ok b rows (W.setCell ⟨b, i * 2 + 1, none⟩ u) := by
  obtain ⟨cs, e, hr⟩ := h.blk
  refine ⟨h.sp.set h.okb u, h.okb, ⟨_, blk_put e (i * 2 + 1) u rfl, fun j t ht => ?_⟩, fun t ht h0 => ?_⟩
  · obtain ⟨r1, x, r2⟩ := hr j t ht
    refine ⟨?_, ?_⟩
    · rw [Array.getElem?_setIfInBounds_ne (by omega)]; exact r1
    · by_cases hij : j = i
      · subst hij
        have hlt : j * 2 + 1 < cs.size := (Array.getElem?_eq_some_iff.1 r2).1
        exact ⟨u, by rw [Array.getElem?_setIfInBounds_self_of_lt hlt]⟩
      · exact ⟨x, by rw [Array.getElem?_setIfInBounds_ne (by omega)]; exact r2⟩
  · obtain ⟨g, ds, h1, h2, h3, h4, h5⟩ := h.row t ht h0
    exact ⟨g, ds, h1, (Below.heap_setCell W ⟨b, i * 2 + 1, none⟩ u g h5).trans h2, h3, h4, h5⟩
theorem Liv.setR (h : Liv w0 ok b rows W) (g o : Nat) (u : Value) (hg : ok g) (hgb : g ≠ b) : Liv w0 ok b rows (W.setCell ⟨g, o, none⟩ u) := by
  obtain ⟨cs, e, hr⟩ := h.blk
  refine ⟨h.sp.set hg u, h.okb, ⟨cs, (Below.heap_setCell W ⟨g, o, none⟩ u b (fun e => hgb e.symm)).trans e, hr⟩, fun t ht h0 => ?_⟩
  obtain ⟨g', ds, h1, h2, h3, h4, h5⟩ := h.row t ht h0
  by_cases hgg : g' = g
  · subst hgg
    exact ⟨g', _, h1, blk_put h2 o u rfl, by rw [Array.size_setIfInBounds]; exact h3, h4, h5⟩
  · exact ⟨g', ds, h1, (Below.heap_setCell W ⟨g, o, none⟩ u g' hgg).trans h2, h3, h4, h5⟩
theorem Liv.of {v : Value} {l : List S35} {base : Nat} (h : Kd.R k35 35 w0 base ok v l) (h0 : 0 < l.length) :
    ∃ b c rows, v = .slice (some ⟨b, 0, none⟩) l.length c ∧ rows.length = l.length ∧ Liv w0 ok b rows w0 ∧ (∀ t ∈ rows, ∃ x ∈ l, t.2.1 = x.f0.length) := by
  obtain ⟨hok, inner, ho, hr⟩ := h
  rcases ho.2 with ⟨_, hn⟩ | ⟨g, cap, cur, rfl, hg, hh, hnc, _, hcs, htk⟩
  · omega
  · have key : ∀ i, i < l.length → ∃ t : Option Addr × Nat × Nat, cur[i * 2]? = some (.slice t.1 t.2.1 t.2.2) ∧ (∃ x, cur[i * 2 + 1]? = some x) ∧ (0 < t.2.1 → ∃ g' cs, t.1 = some ⟨g', 0, none⟩ ∧ w0.heap[g']? = some (.cells cs 56 (0, 0)) ∧ t.2.1 * 4 ≤ cs.size ∧ ok g' ∧ g' ≠ g) ∧ (∃ x ∈ l, t.2.1 = x.f0.length) := by
      intro i hi
      have h1 := hr.2 i _ (List.getElem?_eq_getElem hi)
      obtain ⟨v0, he, hR⟩ := k35_openM h1
      have hc : ∀ j, j < 2 → cur[i * 2 + j]? = [v0, Value.int .i64 l[i].f1][j]? := fun j hj => by
        show cur[i * 2 + j]? = _
        rw [← he, List.getElem?_take, if_pos (show j < k35.sz from hj), List.getElem?_drop, ← htk, List.getElem?_take, if_pos (by show i * 2 + j < l.length * 2; omega)]
        exact (Array.getElem?_toList ..).symm
      obtain ⟨A, c, rfl⟩ := Kd.R_slice hR
      refine ⟨(A, l[i].f0.length, c), by have := hc 0 (by omega); simpa using this, ⟨_, by have := hc 1 (by omega); simpa using this⟩, fun hp => ?_, ⟨l[i], List.getElem_mem hi, rfl⟩⟩
      obtain ⟨hok2, inner2, ho2, _⟩ := hR
      rcases ho2.2 with ⟨_, hn⟩ | ⟨g', cap', cur', e', hg', hh', hnc', _, hcs', _⟩
      · simp at hp; omega
      · injection e' with e1 e2 e3
        subst e1
        have hk := hok2 g' rfl
        exact ⟨g', cur', rfl, hh', by rw [hcs']; exact Nat.mul_le_mul_right 4 (by simpa using hnc'), hk.1, fun e => hk.2 (by rw [e]; rfl)⟩
    haveI : Inhabited (Option Addr × Nat × Nat) := ⟨(none, 0, 0)⟩
    obtain ⟨F, hF⟩ := choose_ltE key
    refine ⟨g, cap, (List.range l.length).map F, rfl, by simp, ⟨Spoilt.refl _ _, hok g rfl, ⟨cur, hh, fun i t ht => ?_⟩, fun t ht hp => ?_⟩, fun t ht => ?_⟩
    · have hi : i < l.length := by have := (List.getElem?_eq_some_iff.1 ht).1; simpa using this
      have : t = F i := by simpa [hi] using ht.symm
      subst this
      exact ⟨(hF i hi).1, (hF i hi).2.1⟩
    · obtain ⟨i, hi, rfl⟩ := List.mem_map.1 ht
      exact (hF i (List.mem_range.1 hi)).2.2.1 hp
    · obtain ⟨i, hi, rfl⟩ := List.mem_map.1 ht
      exact (hF i (List.mem_range.1 hi)).2.2.2
end
set_option maxRecDepth 100000 in
set_option maxHeartbeats 4000000 in
theorem spoil0 (A : Option Addr) (c : Nat) (w : World) : Calls Tryd.prog 22 #[.slice A 0 c] w fun e w' => e = .returned (.tuple #[]) ∧ w = w' := by
  go_enter Tryd.func22, Tryd.ntmps22
  go_wp2
  go_loop [2] (fun v => v = Value.int .i64 0) (fun _ => 0)
  case atStart => rfl
  case round =>
    obtain rfl := hrel
    go_wp2
    first | go_end0 | ((try simp only [Exit.inBlock, Exit.then]); refine bodyPost_ret (results_none rfl _ _ _) rfl ?_)
    exact ⟨rfl, rfl⟩
set_option maxRecDepth 100000 in
set_option maxHeartbeats 8000000 in
theorem spoil1 (ok : Nat → Prop) (b c n : Nat) (rows : List (Option Addr × Nat × Nat)) (hn : rows.length = n) (w : World) (h : Liv w ok b rows w) (hl : n ≤ 1000000) (hl2 : ∀ t ∈ rows, t.2.1 ≤ 1000000) :
    Calls Tryd.prog 22 #[.slice (some ⟨b, 0, none⟩) n c] w fun e w' => e = .returned (.tuple #[]) ∧ Spoilt ok w w' := by
  have hu := Tryd.underlying35
  have hu2 := Tryd.underlying56
  have HL := hidF h
  have HR2 := hidF hl2
  have HN := hidF hn
  clear h hn hl2
  go_enter Tryd.func22, Tryd.ntmps22
  go_wp2
  go_loopw [2] (fun v2 wr => ∃ i : Nat, v2 = Value.int .i64 i ∧ i ≤ n ∧ Hid (Liv w ok b rows wr)) (fun v2 _ => n - natOf v2)
  case atStart => exact ⟨0, rfl, by omega, HL⟩
  case round =>
    obtain ⟨i, rfl, hin, HW⟩ := hrel
    by_cases hlt : i < n
    · have hd : decide ((i : Int) < (n : Int)) = true := decide_eq_true (by omega)
      have hdI : (i : Int) < (n : Int) := by omega
      obtain ⟨⟨A, m, cp⟩, ht⟩ : ∃ t, rows[i]? = some t := ⟨_, List.getElem?_eq_getElem (by have := HN.out; omega)⟩
      have hm : m ≤ 1000000 := HR2.out _ (List.mem_of_getElem? ht)
      have HT := hidF ht
      clear ht
      go_wp2
      go_loopw [3] (fun v3 wr => ∃ k : Nat, v3 = Value.int .i64 k ∧ k ≤ m ∧ Hid (Liv w ok b rows wr)) (fun v3 _ => m - natOf v3)
      case atStart => exact ⟨0, rfl, by omega, HW⟩
      case round =>
        clear HW
        obtain ⟨k, rfl, hkm, HW⟩ := hrel
        obtain ⟨cs, e, hr⟩ := HW.out.blk
        obtain ⟨r1, x, r2⟩ := hr i _ HT.out
        have c0 : wr.cell? ⟨b, i * 2, none⟩ = some (.slice A m cp) := (blk_cell e _).trans r1
        have c1 : wr.cell? ⟨b, i * 2 + 1, none⟩ = some x := (blk_cell e _).trans r2
        have f1 := blk_frozen e (i * 2 + 1)
        clear e hr r1 r2
        by_cases hk : k < m
        · have hd2 : decide ((k : Int) < (m : Int)) = true := decide_eq_true (by omega)
          have hdk : (k : Int) < (m : Int) := by omega
          obtain ⟨g, ds, eA, hh, hs, hg, hgb⟩ := HW.out.row _ (List.mem_of_getElem? HT.out) (by show 0 < m; omega)
          have eA : A = some ⟨g, 0, none⟩ := eA
          subst eA
          have hs : m * 4 ≤ ds.size := hs
          have hx : ∀ j, j < 4 → ∃ y, ds[k * 4 + j]? = some y := fun j hj => ⟨_, Array.getElem?_eq_getElem (by omega)⟩
          obtain ⟨y0, q0⟩ := hx 0 (by omega)
          obtain ⟨y1, q1⟩ := hx 1 (by omega)
          obtain ⟨y2, q2⟩ := hx 2 (by omega)
          obtain ⟨y3, q3⟩ := hx 3 (by omega)
          have d0 : wr.cell? ⟨g, k * 4, none⟩ = some y0 := (blk_cell hh _).trans q0
          have d1 : wr.cell? ⟨g, k * 4 + 1, none⟩ = some y1 := (blk_cell hh _).trans q1
          have d2 : wr.cell? ⟨g, k * 4 + 2, none⟩ = some y2 := (blk_cell hh _).trans q2
          have d3 : wr.cell? ⟨g, k * 4 + 3, none⟩ = some y3 := (blk_cell hh _).trans q3
          have g0 := blk_frozen hh (k * 4)
          have g1 := blk_frozen hh (k * 4 + 1)
          have g2 := blk_frozen hh (k * 4 + 2)
          have g3 := blk_frozen hh (k * 4 + 3)
          have HG := hidF hg
          have HGB := hidF hgb
          clear hh hs hg hgb q0 q1 q2 q3 hx
          go_wp2
          go_roundw
          case rel => exact ⟨k + 1, by go_num, by omega, hidF ((((HW.out.setR g _ _ HG.out HGB.out).setR g _ _ HG.out HGB.out).setR g _ _ HG.out HGB.out).setR g _ _ HG.out HGB.out)⟩
          case measure => simp [natOf]; omega
        · have hd2 : decide ((k : Int) < (m : Int)) = false := decide_eq_false (by omega)
          have hdk : ¬ (k : Int) < (m : Int) := by omega
          go_wp2
          go_roundw
          case rel => exact ⟨i + 1, by go_num, by omega, hidF (HW.out.setW i _)⟩
          case measure => simp [natOf]; omega
    · have hd : decide ((i : Int) < (n : Int)) = false := decide_eq_false (by omega)
      have hdI : ¬ (i : Int) < (n : Int) := by omega
      go_wp2
      first | go_end0 | ((try simp only [Exit.inBlock, Exit.then]); refine bodyPost_ret (results_none rfl _ _ _) rfl ?_)
      exact ⟨rfl, HW.out.sp⟩
/-- spoil, over a multiset of one's own -/
theorem spoil_c (ok : Nat → Prop) (base : Nat) (v : Value) (l : List S35) (n : Nat) (A : Option Addr) (c : Nat) (hv : v = .slice A n c) (w : World) (h : Kd.R k35 35 w base ok v l) (hl : l.length ≤ 1000000) (hl2 : ∀ x ∈ l, x.f0.length ≤ 1000000) :
    Calls Tryd.prog 22 #[.slice A n c] w fun e w' => e = .returned (.tuple #[]) ∧ Spoilt ok w w' := by
  obtain ⟨A', c', e'⟩ := Kd.R_slice h
  have e2 := hv.symm.trans e'
  injection e2 with e3 e4 e5
  rcases Nat.eq_zero_or_pos l.length with h0 | h0
  · rw [e4, h0]
    exact (spoil0 A c w).mono fun e w' ⟨h1, h2⟩ => ⟨h1, h2 ▸ Spoilt.refl ok w⟩
  · obtain ⟨b, c2, rows, hv2, hn, hL, hR⟩ := Liv.of h h0
    have e6 := hv.symm.trans hv2
    injection e6 with e7 e8 e9
    subst e7; subst e8
    refine spoil1 ok b c l.length rows hn w hL hl (fun t ht => ?_)
    obtain ⟨x, hx, e⟩ := hR t ht
    rw [e]; exact hl2 x hx
end Go.Proofs.YthpkjkcfhipjhaaDoor
end
section
namespace Go.Proofs.YthpkjkcfhipjhaaDoor
set_option linter.unusedVariables false
set_option linter.unusedSimpArgs false
open Go.RowKit Go.Proofs.YthpkjkcfhipjhaaDoorW.PrintWords Go.Proofs.YthpkjkcfhipjhaaDoorW.PrintLast PRW PZA PZB
theorem neg_c (A : Option Addr) (c : Nat) (l : List S35) (w : World) (hC : Kd.C k35 w A l.length l) (hc : l.length ≤ c) (hr : rngE l = true) (hl : l.length ≤ 1000000) :
    Calls Tryd.prog 20 #[.slice A l.length c] w fun e w' => ∃ v0, e = .returned (.tuple #[v0, .int .i64 (negP l).2]) ∧ Kd.R k35 35 w' w.heap.size (fun _ => True) v0 (negP l).1 ∧ Below w.heap.size w w' := by
  obtain ⟨k, hk⟩ := neg_ev l hr hl
  exact zset_Neg.calls k A c l _ _ w hC hc (hk k (Nat.le_refl _))
theorem dist_c (A : Option Addr) (c : Nat) (l : List S35) (w : World) (hC : Kd.C k35 w A l.length l) (hc : l.length ≤ c) (hr : rngE l = true) (hl : l.length ≤ 1000000) :
    Calls Tryd.prog 18 #[.slice A l.length c] w fun e w' => ∃ v0, e = .returned (.tuple #[v0, .int .i64 (distP l).2]) ∧ Kd.R k35 35 w' w.heap.size (fun _ => True) v0 (distP l).1 ∧ Below w.heap.size w w' := by
  obtain ⟨k, hk⟩ := dist_ev l hr hl
  exact zset_Distinct.calls k A c l _ _ w hC hc (hk k (Nat.le_refl _))
theorem show_z (A : Option Addr) (c : Nat) (l : List S35) (w : World) (hC : Kd.C k35 w A l.length l) (hc : l.length ≤ c) (hT : RTab w) (hr : rngE l = true) (hl : l.length ≤ 1000) :
    Calls Tryd.prog 21 #[.slice A l.length c] w fun e w' => e = .returned (.string (bs (showZ l))) ∧ Below w.heap.size w w' := by
  obtain ⟨k, hk⟩ := zshow_ev l hr hl
  exact zset_Show.calls k A c l _ w hC hc hT (hk k (Nat.le_refl _))
theorem same_z (A : Option Addr) (c : Nat) (l : List S35) (B : Option Addr) (d : Nat) (w : World) (hC : Kd.C k35 w A l.length l) (hc : l.length ≤ c) (hD : Kd.C k35 w B l.length l) (hd : l.length ≤ d) (hs : shortE l) :
    Calls Tryd.prog 13 #[.slice A l.length c, .slice B l.length d] w fun e w' => e = .returned (.bool true) ∧ Below w.heap.size w w' := by
  obtain ⟨k, hk⟩ := zsame_ev l l hs
  have hk := hk k (Nat.le_refl _)
  rw [decide_eq_true rfl] at hk
  exact (freshetref03_Same.calls k A c l B d l true w hC hc hD hd hk).mono fun e w' ⟨h1, h2⟩ => ⟨h1, h2.below⟩
/-- lists whose rows are not too long -/
def Small (l : List S35) : Prop := l.length ≤ 1000 ∧ ∀ x ∈ l, x.f0.length ≤ 1000000
theorem Zs.small {l : List S35} (h : Zs l) (hl : l.length ≤ 1000) : Small l := ⟨hl, fun x hx => by have := ((soundZ_parts h.rng h.snd).1 x hx).2.2.2.2; omega⟩
theorem make_zero {l z : List S35} (hr : rngE l = true) (h : makeP l = (z, 0)) : Zs z ∧ z.length ≤ l.length := by
  cases hok : l.all okE
  · rw [show makeP l = ([], 1) by unfold makeP; rw [hok]; rfl] at h; cases h
  · rcases make_cases l hr hok with ⟨_, y, h1, h2, _, h4⟩ | ⟨_, h1⟩
    · rw [h1] at h; cases h; exact ⟨h2, h4⟩
    · rw [h1] at h; cases h
theorem add_small {z : List S35} (h : Zs z) (hl : z.length ≤ 1000) : Small (addP z []).1 := by
  obtain ⟨a, h1, h2, _, h4⟩ := add_ok h Zs.nil (fun r => by rw [show Wt [] r = 0 from rfl, Int.add_zero]; exact h.fairW r)
  rw [h1]
  exact h2.small (by simpa using Nat.le_trans h4 (by simpa using hl))
theorem neg_small {z : List S35} (h : Zs z) (hl : z.length ≤ 1000) : Small (negP z).1 := by
  obtain ⟨h1, h2, _⟩ := neg_ok h
  rw [h1]
  exact h2.small (by rw [List.length_map]; exact hl)
theorem dist_small {z : List S35} (h : Zs z) (hl : z.length ≤ 1000) : Small (distP z).1 := by
  unfold distP
  rw [h.snd, if_pos rfl]
  refine ⟨by rw [List.length_map]; exact Nat.le_trans (List.length_filter_le _ _) hl, fun x hx => ?_⟩
  obtain ⟨y, hy, rfl⟩ := List.mem_map.1 hx
  exact (h.small hl).2 y (List.mem_filter.1 hy).1
/-- a multiset of one's own between two sizes of the heap -/
def Own (w : World) (lo hi : Nat) (v : Value) (l : List S35) : Prop := Kd.R k35 35 w lo (fun k => lo ≤ k ∧ k < hi) v l
theorem Own.of {w : World} {lo : Nat} {v : Value} {l : List S35} (h : Kd.R k35 35 w lo (fun _ => True) v l) : Own w lo w.heap.size v l := Kd.R_mono (Kd.R_bound h) (fun k hk => ⟨hk.2.1, hk.2.2.1⟩)
theorem Own.move {w w' : World} {lo hi : Nat} {v : Value} {l : List S35} (h : Own w lo hi v l) (hm : ∀ k, lo ≤ k → k < hi → k < w.heap.size → w'.heap[k]? = w.heap[k]?) : Own w' lo hi v l := Kd.R_step h (fun k hk hlt => hm k hk.1 hk.2 hlt)
theorem Own.below {w w' : World} {lo hi : Nat} {v : Value} {l : List S35} (h : Own w lo hi v l) (hb : Below w.heap.size w w') : Own w' lo hi v l := h.move fun k _ _ hlt => hb.block k hlt
theorem Own.spoilt {w w' : World} {lo hi lo' hi' : Nat} {v : Value} {l : List S35} (h : Own w lo hi v l) (hs : Spoilt (fun k => lo' ≤ k ∧ k < hi') w w') (hd : hi' ≤ lo) : Own w' lo hi v l := h.move fun k h1 _ hlt => hs.block k hlt (fun e => by omega)
theorem Own.spoilt' {w w' : World} {lo hi lo' hi' : Nat} {v : Value} {l : List S35} (h : Own w lo hi v l) (hs : Spoilt (fun k => lo' ≤ k ∧ k < hi') w w') (hd : hi ≤ lo') : Own w' lo hi v l := h.move fun k h1 h2 hlt => hs.block k hlt (fun e => by omega)
theorem Own.C {w : World} {lo hi : Nat} {A : Option Addr} {n c : Nat} {l : List S35} (h : Own w lo hi (.slice A n c) l) : Kd.C k35 w A l.length l := (Kd.R_reads' h).2.2
theorem Own.le {w : World} {lo hi : Nat} {A : Option Addr} {c : Nat} {l : List S35} (h : Own w lo hi (.slice A l.length c) l) : l.length ≤ c := (Kd.R_reads' h).2.1
theorem spoil_o {lo hi : Nat} {A : Option Addr} {c : Nat} {l : List S35} {w : World} (h : Own w lo hi (.slice A l.length c) l) (hs : Small l) :
    Calls Tryd.prog 22 #[.slice A l.length c] w fun e w' => e = .returned (.tuple #[]) ∧ Spoilt (fun k => lo ≤ k ∧ k < hi) w w' :=
  spoil_c _ lo _ l l.length A c rfl w h (Nat.le_trans hs.1 (by decide)) hs.2
set_option maxRecDepth 1000000 in
set_option maxHeartbeats 16000000 in
theorem memory_c (A0 : Option Addr) (c0 : Nat) (l : List S35) (w : World) (hr0 : Kd.C k35 w A0 l.length l) (hc0 : l.length ≤ c0) (hg : rngE l = true) (hrow : ∀ x ∈ l, x.f0.length ≤ 3518437208780) (hT : RTab w) :
    Calls Tryd.prog 5 #[.slice A0 l.length c0] w fun e w' => e = .returned (.bool true) ∧ Below w.heap.size w w' := by
  have hu := Tryd.underlying35
  have AW := hidF (xAwake3.calls true w hT rfl)
  have HT := hidF hT
  have HR := hidF hr0
  have HRW := hidF hrow
  have HG := hidF hg
  clear hr0 hT hrow hg
  by_cases hn : 400 < l.length
  · have h1 : decide ((400 : Int) < (l.length : Int)) = true := decide_eq_true (by omega)
    have h2 : decide ((l.length : Int) > 400) = true := decide_eq_true (by omega)
    have h3 : decide (400 < l.length) = true := decide_eq_true hn
    go_enter Tryd.func5, Tryd.ntmps5
    go_wp2_with (go_at_call 10; ((with_reducible refine AW.out.mono ?_); rintro e w1 ⟨rfl, hb1⟩))
    go_ret
    exact ⟨rfl, hb1⟩
  · have h1 : decide ((400 : Int) < (l.length : Int)) = false := decide_eq_false (by omega)
    have h2 : decide ((l.length : Int) > 400) = false := decide_eq_false (by omega)
    have h3 : decide (400 < l.length) = false := decide_eq_false hn
    obtain ⟨n1, hn1⟩ : ∃ n1, l.length + 1 = n1 := ⟨_, rfl⟩
    have v1 : IntKind.i64.wrap ((l.length : Int) + 1) = (n1 : Int) := by rw [IntKind.wrap_i64]; omega
    have v2 : (0 : Int) ≤ (n1 : Int) := by omega
    go_enter Tryd.func5, Tryd.ntmps5
    go_wp2_with (first
      | (go_at_call 10; ((with_reducible refine AW.out.mono ?_); rintro e w1 ⟨rfl, hb1⟩; have HB1 := hidF hb1; clear hb1))
      | ((with_reducible refine gate_dst (N := 25) rfl ?_); refine Kd.R_make0 k35 _ 35 rfl (N := 25) rfl 22 _ _ rfl (n1 : Int) rfl rfl Tryd.underlying22 (.agg #[(.slice none 0 0), (.int .i64 0)]) 32 infoE rfl (by decide) (by omega) (⟨[], 0⟩ : S35) (ok := fun _ => True) (okp := fun _ => True) (k35_mkM _ _ _ (⟨[], 0⟩ : S35) (Kd.R_nil _ _ _ _ _)) (fun _ hk => hk) trivial v2 (by omega) (Below.refl _ _) (Nat.le_refl _) ?_; intro v2' w2 ho2 hb2 hg2 hn2; clear hg2 hn2; have HO2 := hidF (Kd.R_lower ho2 HB1.out.size); have HB2 := hidF (HB1.out.trans (hb2.mono HB1.out.size)); clear ho2 hb2))
    clear h1 h2 h3
    go_loopw [4, 5] (fun v4 v5 wr => ∃ i : Nat, v5 = Value.int .i64 i ∧ i ≤ l.length ∧ Hid (Kd.R k35 35 wr w.heap.size (fun _ => True) v4 (l.take i)) ∧ Hid (Below w.heap.size w wr)) (fun _ v5 _ => l.length - natOf v5)
    case atStart => exact ⟨0, rfl, by omega, HO2, HB2⟩
    case round =>
      clear HO2 HB2 HB1
      obtain ⟨W0, rfl⟩ : ∃ W0, W0 = wr := ⟨_, rfl⟩
      obtain ⟨i, rfl, hil, HZ, HB⟩ := hrel
      by_cases hlt : i < l.length
      · have hd : decide ((i : Int) < (l.length : Int)) = true := decide_eq_true (by omega)
        have hdI : (i : Int) < (l.length : Int) := by omega
        have hi0 : (0 : Int) ≤ (i : Int) := by omega
        obtain ⟨ad, A1, d1, e, k0, k1, hl1, hC1⟩ := at_T35 HR.out (i : Int) hi0 hdI
        cases e
        rw [Int.toNat_natCast] at k0 k1
        have hm := HRW.out _ (rd_memE l (i : Int) hi0 hdI)
        have HTK : Hid (l.take (i + 1) = l.take i ++ [rd_T35 l (i : Int)]) := hidF (by rw [List.take_succ_eq_append_getElem hlt, rd_atE l i hlt])
        obtain ⟨x, hx⟩ : ∃ x, rd_T35 l (i : Int) = x := ⟨_, rfl⟩
        rw [hx] at HTK k0 k1 hl1 hC1 hm
        have K0 := hidF k0
        have K1 := hidF k1
        have HC1 := hidF hC1
        replace k0 := (HB.out.cell (World.block_lt_of_cell? w _ k0)).trans k0
        replace k1 := (HB.out.cell (World.block_lt_of_cell? w _ k1)).trans k1
        obtain ⟨m, hmm⟩ : ∃ m, x.f0.length = m := ⟨_, rfl⟩
        have HMM := hidF hmm
        rw [hmm] at k0 K0 hm
        obtain ⟨m1, hm1⟩ : ∃ m1, m + 1 = m1 := ⟨_, rfl⟩
        have u1 : IntKind.i64.wrap ((m : Int) + 1) = (m1 : Int) := by rw [IntKind.wrap_i64]; omega
        have u2 : (0 : Int) ≤ (m1 : Int) := by omega
        have v9 : IntKind.i64.wrap ((i : Int) + 1) = ((i + 1 : Nat) : Int) := by rw [IntKind.wrap_i64]; omega
        clear hC1 hmm hx
        go_wp2_with (first
          | ((with_reducible refine gate_dst (N := 38) rfl ?_); refine Kd.R_make0 k56 _ 56 rfl (N := 38) rfl 33 _ _ rfl (m1 : Int) rfl rfl Tryd.underlying33 (.agg #[(.int .i64 0), (.int .i64 0), (.int .u64 0), (.string ⟨#[]⟩)]) 40 infoVv rfl (by decide) (by omega) (⟨0, 0, 0, ⟨#[]⟩⟩ : S56) (ok := fun _ => True) (okp := fun _ => True) (k56_mkM _ _ _ (⟨0, 0, 0, ⟨#[]⟩⟩ : S56)) (fun _ hk => hk) trivial u2 (by omega) (Below.refl _ _) (Nat.le_refl _) ?_; intro v6' w3 ho3 hb3 hg3 hn3; clear hg3 hn3; have HO3 := hidF ho3; have HB3 := hidF hb3; have HB03 := hidF (HB.out.trans (hb3.mono HB.out.size)); clear ho3 hb3 k0 k1; have k0 := (HB03.out.cell (World.block_lt_of_cell? w _ K0.out)).trans K0.out)
          | ((with_reducible refine gate_builtin (b := .append) (xs := #[.tmp 39, .tmp 44]) rfl ?_); at_builtin; refine Kd.R_append_rows k56 (w0 := W0) W0.heap.size rfl (.tmp 39) (.tmp 44) 33 56 (.agg #[(.int .i64 0), (.int .i64 0), (.int .u64 0), (.string ⟨#[]⟩)]) 40 rfl Tryd.underlying33 infoVv rfl (by decide) (by omega) v6' [] x.f0 _ _ _ (fun _ => True) (fun _ => False) rfl rfl ?aO ?aR (fun _ _ h => h) (fun _ h => h.elim) ?aF ?aB ?aS ?aL ?_; (case aO => exact HO3.out); (case aR => rw [← HMM.out]; exact Kd.C_below HC1.out HB03.out); (case aF => exact fun _ _ => trivial); (case aB => exact HB3.out); (case aS => exact HB3.out.size); (case aL => simp; omega); intro v7' w4 ho4 hb4 hg4 hn4; clear hg4 hn4; rw [List.nil_append] at ho4; have HO4 := hidF ho4; have HB4 := hidF hb4; have HB04 := hidF (HB.out.trans (hb4.mono HB.out.size)); clear ho4 hb4 k0; have k1 := (HB04.out.cell (World.block_lt_of_cell? w _ K1.out)).trans K1.out; obtain ⟨A7, c7, e7⟩ := Kd.R_slice HO4.out; subst e7)
          | ((with_reducible refine gate_builtin (b := .append) (xs := #[.tmp 46, .tmp 54]) rfl ?_); at_builtin; refine Kd.R_append k35 (w0 := w) w.heap.size rfl (.tmp 46) (.tmp 54) 22 35 (.agg #[(.slice none 0 0), (.int .i64 0)]) 32 rfl Tryd.underlying22 infoE rfl (by decide) (by omega) u4 (l.take i) x [.slice A7 x.f0.length c7, .int .i64 x.f1] (fun _ => True) (fun k => True ∧ some k ≠ (u4 : Value).ownBlock) rfl rfl ?aP (fun _ hk => hk) ?aF ?aO ?aB ?aS ?aL ?_; (case aP => exact k35_mkM _ _ _ x (Kd.R_lower (Kd.R_mono (Kd.R_bound HO4.out) (fun k hk => ⟨trivial, fun e => by have := Kd.R_lt HZ.out k e.symm; have := hk.2.1; omega⟩)) HB.out.size)); (case aB => exact HB04.out); (case aF => exact fun _ _ => trivial); (case aO => exact Kd.R_below HZ.out HB4.out); (case aS => exact HB04.out.size); (case aL => rw [List.length_take]; omega); intro v8' w5 ho5 hb5 hg5 hn5; clear hg5 hn5; have HO5 := hidF ho5; have HB5 := hidF hb5; clear ho5 hb5))
        go_roundw
        case rel => exact ⟨i + 1, by go_num, by omega, hidF (by rw [HTK.out]; exact HO5.out), HB5⟩
        case measure => simp [natOf]; omega
      · have hd : decide ((i : Int) < (l.length : Int)) = false := decide_eq_false (by omega)
        have hdI : ¬ (i : Int) < (l.length : Int) := by omega
        have hie : i = l.length := by omega
        have HZ2 : Hid (Kd.R k35 35 W0 w.heap.size (fun _ => True) u4 l) := hidF (by have := HZ.out; rwa [hie, List.take_of_length_le (Nat.le_refl _)] at this)
        clear hie HZ hlt hil
        have NUM : Hid (∀ W, Calls Tryd.prog 19 #[.int .i64 77, .int .i64 77] W fun e w' => ∃ v0, e = .returned (.agg #[v0, .int .i64 77]) ∧ Kd.R k56 56 w' W.heap.size (fun _ => True) v0 (nR 77) ∧ Below W.heap.size W w') := hidF fun W => freshetlaw03_num.calls 77 77 (nR 77) 77 W rfl
        have HN1 := hidF hn1
        have hl400 : l.length ≤ 400 := by omega
        clear hn hn1 v1 v2
        go_wp2_with (first
          | (go_at_call 19; ((with_reducible refine (NUM.out _).mono ?_); rintro e w3 ⟨v3, rfl, ho3, hb3⟩; have HO3 := hidF ho3; have HB3 := hidF hb3; have HB03 := hidF (HB.out.trans (hb3.mono HB.out.size)); clear ho3 hb3; obtain ⟨A3, c3, e3⟩ : ∃ A c, v3 = .slice A 1 c := Kd.R_slice HO3.out; subst e3))
          | ((with_reducible refine gate_builtin (b := .append) (xs := #[.tmp 56, .tmp 58]) rfl ?_); at_builtin; refine Kd.R_append k35 (w0 := w) w.heap.size rfl (.tmp 56) (.tmp 58) 22 35 (.agg #[(.slice none 0 0), (.int .i64 0)]) 32 rfl Tryd.underlying22 infoE rfl (by decide) (by omega) u4 l (nE 77 77) [.slice A3 1 c3, .int .i64 77] (fun _ => True) (fun k => True ∧ some k ≠ (u4 : Value).ownBlock) rfl rfl ?aP (fun _ hk => hk) ?aF ?aO ?aB ?aS ?aL ?_; (case aP => exact k35_mkM _ _ _ (nE 77 77) (Kd.R_lower (Kd.R_mono (Kd.R_bound HO3.out) (fun k hk => ⟨trivial, fun e => by have := Kd.R_lt HZ2.out k e.symm; have := hk.2.1; omega⟩)) HB.out.size)); (case aB => exact HB03.out); (case aF => exact fun _ _ => trivial); (case aO => exact Kd.R_below HZ2.out HB3.out); (case aS => exact HB03.out.size); (case aL => omega); intro v4' w4 ho4 hb4 hg4 hn4; clear hg4 hn4; have HO4 := hidF ho4; have HB4 := hidF hb4; clear ho4 hb4; obtain ⟨g, cap, e4, hgw, hgl, _⟩ := Kd.R_form HO4.out (by simp); rw [show (l ++ [nE 77 77]).length = n1 from (by rw [List.length_append]; exact HN1.out)] at e4; subst e4; have hcap : l.length ≤ cap := (by have := (Kd.R_reads' HO4.out).2.1; have := HN1.out; omega); have hcapI : (l.length : Int) ≤ (cap : Int) := (by omega); have hz0 : (0 : Int) ≤ (l.length : Int) := (by omega)))
        -- mine, as it lies
        have CM0 := (Kd.R_reads' HO4.out).2.2
        have CM : Hid (Kd.C k35 w4 (some ⟨g, 0, none⟩) l.length l) := hidF (by
          have := Kd.C_take (m := l.length) CM0 (by rw [List.length_append]; omega)
          rw [List.take_left' rfl] at this
          exact this)
        have C77 : Hid (w4.cell? ⟨g, l.length * 2 + 1, none⟩ = some (.int .i64 77)) := hidF (by
          obtain ⟨ad, A, d, e, _, q1, _, _⟩ := at_T35 CM0 (l.length : Int) (by omega) (by rw [List.length_append]; simp; omega)
          injection e with e
          subst e
          rw [Int.toNat_natCast, show rd_T35 (l ++ [nE 77 77]) (l.length : Int) = nE 77 77 by rw [rd_atE _ _ (by simp)]; simp] at q1
          have : ((⟨g, 0, none⟩ : Addr).add (l.length * 2)) = ⟨g, l.length * 2, none⟩ := by unfold Addr.add; split <;> simp_all
          rw [this] at q1
          exact q1)
        have SH : Hid (shortE l) := hidF ⟨by omega, fun x hx => by have := HRW.out x hx; omega⟩
        obtain ⟨z, ez, hq⟩ : ∃ z ez, makeP l = (z, ez) := ⟨_, _, rfl⟩
        have HQ := hidF hq
        have HMK : Hid (Calls Tryd.prog 15 #[.slice (some ⟨g, 0, none⟩) l.length cap] w4 fun e w' => ∃ v0, e = .returned (.tuple #[v0, .int .i64 ez]) ∧ Kd.R k35 35 w' w4.heap.size (fun _ => True) v0 z ∧ Below w4.heap.size w4 w') := hidF (by
          have := make_c _ cap l w4 CM.out (by omega) (rngE_at HG.out)
          unfold MakeOut at this
          rw [hq] at this
          exact this)
        clear hq
        have SAME : Hid (∀ W, Below w4.heap.size w4 W → Calls Tryd.prog 13 #[.slice (some ⟨g, 0, none⟩) l.length cap, .slice A0 l.length c0] W fun e w' => e = .returned (.bool true) ∧ Below W.heap.size W w') := hidF fun W hb => same_z _ cap l A0 c0 W (Kd.C_below CM.out hb) hcap (Kd.C_below HR.out (HB4.out.trans (hb.mono HB4.out.size))) hc0 SH.out
        clear CM0 NUM HO3 HB3 HB03 HZ2 HB AW hgw hgl
        (with_reducible refine HMK.out.mono ?_)
        rintro e w5 ⟨vz, rfl, hoz, hbz⟩
        have HOZ0 := hidF hoz
        have HB5 := hidF hbz
        clear hoz hbz HMK
        have HOZ : Hid (Own w5 w4.heap.size w5.heap.size vz z) := hidF (Own.of HOZ0.out)
        clear HOZ0
        by_cases hez : ez = 0
        · have HPZ : Hid (Zs z ∧ z.length ≤ l.length) := hidF (make_zero HG.out (by rw [HQ.out, hez]))
          subst hez
          obtain ⟨Az, cz, ezz⟩ := Kd.R_slice HOZ.out
          subst ezz
          have hz4 : z.length ≤ 400 := Nat.le_trans HPZ.out.2 hl400
          have HRZ : Hid (rngE z = true) := hidF HPZ.out.1.rng
          have HSZ : Hid (Small z) := hidF (HPZ.out.1.small (by omega))
          obtain ⟨a, ea, hea⟩ : ∃ a ea, addP z [] = (a, ea) := ⟨_, _, rfl⟩
          obtain ⟨b, eb, heb⟩ : ∃ b eb, negP z = (b, eb) := ⟨_, _, rfl⟩
          obtain ⟨d, ed, hed⟩ : ∃ d ed, distP z = (d, ed) := ⟨_, _, rfl⟩
          have HSA : Hid (Small a) := hidF (by have := add_small HPZ.out.1 (by omega); rwa [hea] at this)
          have HSB : Hid (Small b) := hidF (by have := neg_small HPZ.out.1 (by omega); rwa [heb] at this)
          have HSD : Hid (Small d) := hidF (by have := dist_small HPZ.out.1 (by omega); rwa [hed] at this)
          have ADD : Hid (Calls Tryd.prog 12 #[.slice Az z.length cz, .slice none 0 0] w5 fun e w' => ∃ v0, e = .returned (.tuple #[v0, .int .i64 ea]) ∧ Kd.R k35 35 w' w5.heap.size (fun _ => True) v0 a ∧ Below w5.heap.size w5 w') := hidF (by
            have := add_z Az cz z none 0 [] w5 HOZ.out.C HOZ.out.le (Kd.C_nil _ _) (Nat.le_refl _) (rngE_at HRZ.out) (fun x hx => by cases hx) (by omega) (by simp)
            unfold AddOut at this
            rw [hea] at this
            exact this)
          have NEG : Hid (∀ W, Below w5.heap.size w5 W → Calls Tryd.prog 20 #[.slice Az z.length cz] W fun e w' => ∃ v0, e = .returned (.tuple #[v0, .int .i64 eb]) ∧ Kd.R k35 35 w' W.heap.size (fun _ => True) v0 b ∧ Below W.heap.size W w') := hidF (fun W hb => by
            have := neg_c Az cz z W (HOZ.out.below hb).C HOZ.out.le HRZ.out (by omega)
            rw [heb] at this
            exact this)
          have DIS : Hid (∀ W, Below w5.heap.size w5 W → Calls Tryd.prog 18 #[.slice Az z.length cz] W fun e w' => ∃ v0, e = .returned (.tuple #[v0, .int .i64 ed]) ∧ Kd.R k35 35 w' W.heap.size (fun _ => True) v0 d ∧ Below W.heap.size W w') := hidF (fun W hb => by
            have := dist_c Az cz z W (HOZ.out.below hb).C HOZ.out.le HRZ.out (by omega)
            rw [hed] at this
            exact this)
          obtain ⟨sh, hsh⟩ : ∃ sh, bs (showZ z) = sh := ⟨_, rfl⟩
          have SHW : Hid (∀ W, RTab W → Own W w4.heap.size w5.heap.size (.slice Az z.length cz) z → Calls Tryd.prog 21 #[.slice Az z.length cz] W fun e w' => e = .returned (.string sh) ∧ Below W.heap.size W w') := hidF (fun W hT ho => by
            have := show_z Az cz z W ho.C HOZ.out.le hT HRZ.out (by omega)
            rw [hsh] at this
            exact this)
          clear hea heb hed hsh
          have HT5 := hidF ((HT.out.below HB4.out).below HB5.out)
          have hn1b := HN1.out
          have hin1 : (l.length : Int) < (n1 : Int) := by omega
          go_wp2_with fail
          (with_reducible refine ADD.out.mono ?_)
          rintro e w6 ⟨va, rfl, hoa, hb6⟩
          have HB6 := hidF hb6
          have HOA := hidF (Own.of hoa)
          clear hoa hb6
          obtain ⟨Aa, ca, eaa⟩ := Kd.R_slice HOA.out
          subst eaa
          go_wp2_with fail
          (with_reducible refine (NEG.out _ HB6.out).mono ?_)
          rintro e w7 ⟨vb, rfl, hob, hb7⟩
          have HB57 := hidF (HB6.out.trans (hb7.mono HB6.out.size))
          have HB7 := hidF hb7
          have HOB := hidF (Own.of hob)
          clear hob hb7
          obtain ⟨Ab, cb, ebb⟩ := Kd.R_slice HOB.out
          subst ebb
          go_wp2_with fail
          (with_reducible refine (DIS.out _ HB57.out).mono ?_)
          rintro e w8 ⟨vd, rfl, hod, hb8⟩
          have HB58 := hidF (HB57.out.trans (hb8.mono HB57.out.size))
          have HB8 := hidF hb8
          have HOD := hidF (Own.of hod)
          clear hod hb8
          obtain ⟨Ad, cd, edd⟩ := Kd.R_slice HOD.out
          subst edd
          go_wp2_with fail
          (with_reducible refine (SHW.out _ (HT5.out.below HB58.out) (HOZ.out.below HB58.out)).mono ?_)
          rintro e w9 ⟨rfl, hb9⟩
          have HB9 := hidF hb9
          have HB59 := hidF (HB58.out.trans (hb9.mono HB58.out.size))
          clear hb9
          have OZ9 := hidF (HOZ.out.below HB59.out)
          have OA9 := hidF (((HOA.out.below HB7.out).below HB8.out).below HB9.out)
          have OB9 := hidF ((HOB.out.below HB8.out).below HB9.out)
          have OD9 := hidF (HOD.out.below HB9.out)
          have z56 := HB6.out.size
          have z67 := HB7.out.size
          have z78 := HB8.out.size
          have z89 := HB9.out.size
          have z45 := HB5.out.size
          go_wp2_with fail
          (with_reducible refine (spoil_o OA9.out HSA.out).mono ?_)
          rintro e w10 ⟨rfl, hs10⟩
          have OZ10 := hidF (OZ9.out.spoilt' hs10 (Nat.le_refl _))
          have OB10 := hidF (OB9.out.spoilt hs10 (Nat.le_refl _))
          have OD10 := hidF (OD9.out.spoilt hs10 z67)
          have HB510 := hidF (HB59.out.trans (hs10.below (fun k hk => hk.1) HB59.out.size))
          clear hs10
          go_wp2_with fail
          (with_reducible refine (spoil_o OB10.out HSB.out).mono ?_)
          rintro e w11 ⟨rfl, hs11⟩
          have OZ11 := hidF (OZ10.out.spoilt' hs11 z56)
          have OD11 := hidF (OD10.out.spoilt hs11 (Nat.le_refl _))
          have HB511 := hidF (HB510.out.trans (hs11.below (fun k hk => by omega) HB510.out.size))
          clear hs11
          go_wp2_with fail
          (with_reducible refine (spoil_o OD11.out HSD.out).mono ?_)
          rintro e w12 ⟨rfl, hs12⟩
          have OZ12 := hidF (OZ11.out.spoilt' hs12 (by omega))
          have HB512 := hidF (HB511.out.trans (hs12.below (fun k hk => by omega) HB511.out.size))
          clear hs12
          go_wp2_with fail
          (with_reducible refine (SHW.out _ (HT5.out.below HB512.out) OZ12.out).mono ?_)
          rintro e w13 ⟨rfl, hb13⟩
          have OZ13 := hidF (OZ12.out.below hb13)
          have HB513 := hidF (HB512.out.trans (hb13.mono HB512.out.size))
          have HB413 := hidF (HB5.out.trans (HB513.out.mono HB5.out.size))
          clear hb13
          go_wp2_with fail
          (with_reducible refine (SAME.out _ HB413.out).mono ?_)
          rintro e w14 ⟨rfl, hb14⟩
          have OZ14 := hidF (OZ13.out.below hb14)
          have HB414 := hidF (HB413.out.trans (hb14.mono HB413.out.size))
          have c77 := (HB414.out.cell (World.block_lt_of_cell? w4 _ C77.out)).trans C77.out
          clear hb14
          go_wp2_with fail
          (with_reducible refine (spoil_o OZ14.out HSZ.out).mono ?_)
          rintro e w15 ⟨rfl, hs15⟩
          have HB415 := hidF (HB414.out.trans (hs15.below (fun k hk => hk.1) HB414.out.size))
          clear hs15
          go_wp2_with fail
          (with_reducible refine (SAME.out _ HB415.out).mono ?_)
          rintro e w16 ⟨rfl, hb16⟩
          go_wp2_with fail
          go_ret
          exact ⟨rfl, HB4.out.trans ((HB415.out.trans (hb16.mono HB415.out.size)).mono HB4.out.size)⟩
        · have hz1 : (ez != 0) = true := bne_iff_ne.2 hez
          have hz2 : decide (ez = 0) = false := decide_eq_false hez
          go_wp2_with fail
          (with_reducible refine (SAME.out _ HB5.out).mono ?_)
          rintro e w6 ⟨rfl, hb6⟩
          go_wp2_with fail
          go_ret
          exact ⟨rfl, HB4.out.trans ((HB5.out.trans (hb6.mono HB5.out.size)).mono HB4.out.size)⟩
end Go.Proofs.YthpkjkcfhipjhaaDoor
end
section
namespace Go.Proofs.YthpkjkcfhipjhaaDoor
set_option linter.unusedVariables false
set_option linter.unusedSimpArgs false
open Go.RowKit Go.Proofs.YthpkjkcfhipjhaaDoorW.PrintWords Go.Proofs.YthpkjkcfhipjhaaDoorW.PrintLast PRW PZA PZB
theorem walkZsetMemory (w : World) (A0 : Option Addr) (c0 : Nat) (L0 : List S35) (hc0 : L0.length ≤ c0) (hr0 : Kd.C k35 w A0 L0.length L0) (hg0 : rngE L0 = true) (hw : ∀ x ∈ L0, x.f0.length ≤ 3518437208780) (hT : RTab w) :
    Calls Tryd.prog 5 #[.slice A0 L0.length c0] w fun e w' => e = .returned (.bool true) ∧ Below w.heap.size w w' :=
  memory_c A0 c0 L0 w hr0 hc0 hg0 hw hT
end Go.Proofs.YthpkjkcfhipjhaaDoor
end
