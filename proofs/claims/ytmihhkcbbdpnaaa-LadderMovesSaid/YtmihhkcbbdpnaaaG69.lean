/- The bridge for the law of moves. -/
import Derived.Test.YtmihhkcbbdpnaaaG67
import Derived.Test.YtmihhkcbbdpnaaaG68
namespace Go.Proofs.Ytmihhkcbbdpnaaa.Abs
open Go.Proofs
set_option linter.unusedVariables false
theorem specLMoves (rows : List (List D)) (h : AllR (ShapeD tab 5) [77] rows) : PSpec Try.prog 18 (List.zipWith (argV tab) [77] rows) (V.bool true) := by
  obtain ⟨_, _, rfl, h1, h⟩ := h.cons
  cases h.nil
  obtain ⟨l, hl, rfl⟩ := ops8Of h1
  exact lMoves l hl
end Go.Proofs.Ytmihhkcbbdpnaaa.Abs
