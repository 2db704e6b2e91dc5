/- The bridge for the law of peeks. -/
import Derived.Test.YtmihhkcbbdpnaaaG70
namespace Go.Proofs.Ytmihhkcbbdpnaaa.Abs
open Go.Proofs
set_option linter.unusedVariables false
theorem specLPeeks (rows : List (List D)) (h : AllR (ShapeD tab 5) [77, 80] rows) : PSpec Try.prog 17 (List.zipWith (argV tab) [77, 80] rows) (V.bool true) := by
  obtain ⟨_, _, rfl, h1, h⟩ := h.cons
  obtain ⟨_, _, rfl, h2, h⟩ := h.cons
  cases h.nil
  obtain ⟨l, hl, rfl⟩ := ops8Of h1
  obtain ⟨⟨o, ho⟩, rfl⟩ := op8Of h2
  exact lPeeks l hl o ho
end Go.Proofs.Ytmihhkcbbdpnaaa.Abs
