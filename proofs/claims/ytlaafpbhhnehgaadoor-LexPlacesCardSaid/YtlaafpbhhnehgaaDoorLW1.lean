/- The walk of 'LexPlaces'. -/
import Derived.Test.YtlaafpbhhnehgaaDoorLQ2
namespace Go.Proofs.YtlaafpbhhnehgaaDoor
set_option linter.unusedVariables false
set_option linter.unusedSimpArgs false
open Go.RowKit Go.Proofs.YtlaafpbhhnehgaaDoorW.PrintWords PLX

theorem walkLexPlaces (s : ByteArray) (w0 : s.size ≤ maxLen) (w : World) (ht : Tab w) :
    Calls Tryd.prog 8 #[.string s] w fun e w' => e = .returned (.bool true) ∧ Below w.heap.size w w' := by
  obtain ⟨k, hk⟩ := (places_ev s).rounds
  exact freshetlaw13_LexPlaces.calls k s true w ht hk

end Go.Proofs.YtlaafpbhhnehgaaDoor
