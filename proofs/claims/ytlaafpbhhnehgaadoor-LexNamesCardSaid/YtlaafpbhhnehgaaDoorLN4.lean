/- LexNames answers true. -/
import Derived.Test.YtlaafpbhhnehgaaDoorLN3
namespace Go.Proofs.YtlaafpbhhnehgaaDoor
set_option linter.unusedVariables false
set_option linter.unusedSimpArgs false
open Go.RowKit Go.Proofs.YtlaafpbhhnehgaaDoorW.PrintWords Go.Proofs.YtlaafpbhhnehgaaDoorW.PrintLast PLX

theorem names_ev (s : ByteArray) (hz : s.size ≤ 140737488351232) : Ev (fun k => freshetlaw13_LexNames.f k s) true := by
  have hr : Ev (fun k => freshetref13_Name.f k s) (⟨(nameW s.data.toList).1.toArray⟩, (nameW s.data.toList).2) := by
    refine rname_ev s ?_ (by omega) (isName_ev s (by omega))
    by_cases h : s.size ≤ 32
    · exact .inl h
    · right
      unfold nameP
      rw [← Lib.size_eq, decide_eq_false h]; simp
  unfold freshetlaw13_LexNames.f
  refine Ev.bind awake_ev (Ev.congr (fun k => by rw [if_pos rfl, xName.f, Option.bind_some]) (Ev.bind hr (Ev.congr (fun k => ?_) (Ev.now true))))
  simp only [if_true]
  have h1 : xIsWord.f s = some (isWd s.data.toList) := rfl
  have h2 : xrIsWord.f s = some (isWd s.data.toList) := by unfold xrIsWord.f; rw [if_pos (by omega), isRW_eq]
  rw [h1, h2, Option.bind_some, Option.bind_some]; simp

theorem walkLexNames (s : ByteArray) (w0 : s.size ≤ maxLen) (hz : s.size ≤ 140737488351232) (w : World) (ht : Tab w) :
    Calls Tryd.prog 4 #[.string s] w fun e w' => e = .returned (.bool true) ∧ Below w.heap.size w w' := by
  obtain ⟨k, hk⟩ := (names_ev s hz).rounds
  exact freshetlaw13_LexNames.calls k s true w ht hk

end Go.Proofs.YtlaafpbhhnehgaaDoor
