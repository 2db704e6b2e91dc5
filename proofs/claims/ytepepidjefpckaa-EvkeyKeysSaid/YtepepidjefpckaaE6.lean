/- The row of EvkeyKeys, as data. -/
import Derived.Test.YtepepidjefpckaaE4
import Derived.Test.YtepepidjefpckaaE5
namespace Go.Proofs.Ytepepidjefpckaa.Abs
open Go.Proofs
set_option maxRecDepth 10000
set_option linter.unusedVariables false
theorem specKeys (rows : List (List D)) (h : AllR (ShapeD tab 5) [33, 33, 33] rows) : PSpec Try.prog 10 (List.zipWith (argV tab) [33, 33, 33] rows) (V.bool true) := by
  obtain ⟨_, _, rfl, h1, h⟩ := h.cons
  obtain ⟨_, _, rfl, h2, h⟩ := h.cons
  obtain ⟨_, _, rfl, h3, h⟩ := h.cons
  cases h.nil
  obtain ⟨x, rfl, hx⟩ := keyOf h1
  obtain ⟨y, rfl, hy⟩ := keyOf h2
  obtain ⟨z, rfl, hz⟩ := keyOf h3
  exact evkeyKeys x y z
end Go.Proofs.Ytepepidjefpckaa.Abs
