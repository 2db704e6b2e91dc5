/- The bridge for the law of shifted workloads. -/
import Derived.Test.YtmihhkcbbdpnaaaK2
namespace Go.Proofs.Ytmihhkcbbdpnaaa.Abs
open Go.Proofs
set_option maxRecDepth 10000
set_option linter.unusedSimpArgs false
set_option linter.unusedVariables false
theorem specShifted (rows : List (List D)) (h : AllR (ShapeD tab 5) [58, 55] rows) : PSpec Try.prog 13 (List.zipWith (argV tab) [58, 55] rows) (V.bool true) := by
  obtain ⟨_, _, rfl, h1, h⟩ := h.cons
  obtain ⟨_, _, rfl, h2, h⟩ := h.cons
  cases h.nil
  obtain ⟨l, rfl⟩ := wopsOf h1
  obtain ⟨n, rfl, hn⟩ := u32OfG h2
  exact wShifted l n hn
end Go.Proofs.Ytmihhkcbbdpnaaa.Abs
