/- The bridge for the laws of the sorted list, of emptying and of places. -/
import Derived.Test.YtmihhkcbbdpnaaaG72
import Derived.Test.YtmihhkcbbdpnaaaG75
import Derived.Test.YtmihhkcbbdpnaaaG76
namespace Go.Proofs.Ytmihhkcbbdpnaaa.Abs
open Go.Proofs
set_option linter.unusedVariables false
theorem specLModel (rows : List (List D)) (h : AllR (ShapeD tab 5) [77] rows) : PSpec Try.prog 16 (List.zipWith (argV tab) [77] rows) (V.bool true) := by
  obtain ⟨_, _, rfl, h1, h⟩ := h.cons
  cases h.nil
  obtain ⟨l, hl, rfl⟩ := ops8Of h1
  exact lModel l hl
theorem specLSorts (rows : List (List D)) (h : AllR (ShapeD tab 5) [77] rows) : PSpec Try.prog 15 (List.zipWith (argV tab) [77] rows) (V.bool true) := by
  obtain ⟨_, _, rfl, h1, h⟩ := h.cons
  cases h.nil
  obtain ⟨l, hl, rfl⟩ := ops8Of h1
  exact lSorts l hl
theorem specLRoutes (rows : List (List D)) (h : AllR (ShapeD tab 5) [77, 80] rows) : PSpec Try.prog 19 (List.zipWith (argV tab) [77, 80] rows) (V.bool true) := by
  obtain ⟨_, _, rfl, h1, h⟩ := h.cons
  obtain ⟨_, _, rfl, h2, h⟩ := h.cons
  cases h.nil
  obtain ⟨l, hl, rfl⟩ := ops8Of h1
  obtain ⟨⟨o, ho⟩, rfl⟩ := op8Of h2
  exact lRoutes l hl o ho
end Go.Proofs.Ytmihhkcbbdpnaaa.Abs
