/- lex.quoted: a text between quotes, each quote within it twice. -/
import Derived.Test.YtlaafpbhhnehgaaDoorL6
import Derived.Test.YtlaafpbhhnehgaaDoorLP1
namespace Go.Proofs.YtlaafpbhhnehgaaDoor
set_option linter.unusedVariables false
set_option linter.unusedSimpArgs false
open Go.RowKit Go.Lib

theorem quote_eq (q : UInt8) (l : List UInt8) : ((⟨#[q]⟩ : ByteArray) ++ ⟨(dbl q l).toArray⟩ ++ ⟨#[q]⟩) = ⟨(quoteL q l).toArray⟩ := by
  apply ByteArray.ext; simp [quoteL]

set_option maxRecDepth 100000 in
theorem quoted_34 (s : ByteArray) (w : World) (ht : Tab w) (hs : s.size < 4294967281) :
    Calls Tryd.prog 32 #[.string s, .int .u8 34] w fun e w' => e = .returned (.string ⟨(quoteL 34 s.data.toList).toArray⟩) ∧ Below w.heap.size w w' := by
  obtain ⟨m, hm⟩ := ht.len
  have hl : s.size + Lib.countB s ⟨#[34]⟩ * (⟨#[34, 34]⟩ : ByteArray).size ≤ 140737488355328 := by
    have h1 := Lib.countB_le ⟨#[34]⟩ (by decide) s.size s (Nat.le_refl _)
    have h2 : (⟨#[34, 34]⟩ : ByteArray).size = 2 := rfl
    rw [h2]; omega
  have e34 : Utf8.encode 34 = ⟨#[34]⟩ := by decide +kernel
  have z34 : (⟨#[34]⟩ : ByteArray).size = 1 := rfl
  have hd := dbl_len 34 s.data.toList
  rw [← Lib.size_eq] at hd
  have hr := replaceAll_dbl 34 s.data.toList
  go_enter Tryd.func32, Tryd.ntmps32
  go_wp2_with (go_at_call 61; refine (Tryd.strings_ReplaceAll s ⟨#[34]⟩ ⟨#[34, 34]⟩ m _ hs hm (by decide) hl).mono ?_; rintro e w' ⟨rfl, hb⟩; rw [replaceAll_dbl])
  go_ret
  refine ⟨?_, (by repeat (first | (with_reducible exact Below.refl _ _) | (with_reducible refine below_al ?_ _) | (with_reducible refine below_drewN ?_ _) | (with_reducible refine Below.drew ?_) | (with_reducible refine below_via (by assumption) ?_) | (with_reducible refine below_sc ?_ ?_ _; · (first | (simp; done) | (simp; omega) | omega))))⟩
  exact congrArg (fun s => Ending.returned (Value.string s)) (quote_eq _ _)

set_option maxRecDepth 100000 in
theorem quoted_39 (s : ByteArray) (w : World) (ht : Tab w) (hs : s.size < 4294967281) :
    Calls Tryd.prog 32 #[.string s, .int .u8 39] w fun e w' => e = .returned (.string ⟨(quoteL 39 s.data.toList).toArray⟩) ∧ Below w.heap.size w w' := by
  obtain ⟨m, hm⟩ := ht.len
  have hl : s.size + Lib.countB s ⟨#[39]⟩ * (⟨#[39, 39]⟩ : ByteArray).size ≤ 140737488355328 := by
    have h1 := Lib.countB_le ⟨#[39]⟩ (by decide) s.size s (Nat.le_refl _)
    have h2 : (⟨#[39, 39]⟩ : ByteArray).size = 2 := rfl
    rw [h2]; omega
  have e39 : Utf8.encode 39 = ⟨#[39]⟩ := by decide +kernel
  have z39 : (⟨#[39]⟩ : ByteArray).size = 1 := rfl
  have hd := dbl_len 39 s.data.toList
  rw [← Lib.size_eq] at hd
  have hr := replaceAll_dbl 39 s.data.toList
  go_enter Tryd.func32, Tryd.ntmps32
  go_wp2_with (go_at_call 61; refine (Tryd.strings_ReplaceAll s ⟨#[39]⟩ ⟨#[39, 39]⟩ m _ hs hm (by decide) hl).mono ?_; rintro e w' ⟨rfl, hb⟩; rw [replaceAll_dbl])
  go_ret
  refine ⟨?_, (by repeat (first | (with_reducible exact Below.refl _ _) | (with_reducible refine below_al ?_ _) | (with_reducible refine below_drewN ?_ _) | (with_reducible refine Below.drew ?_) | (with_reducible refine below_via (by assumption) ?_) | (with_reducible refine below_sc ?_ ?_ _; · (first | (simp; done) | (simp; omega) | omega))))⟩
  exact congrArg (fun s => Ending.returned (Value.string s)) (quote_eq _ _)

end Go.Proofs.YtlaafpbhhnehgaaDoor
