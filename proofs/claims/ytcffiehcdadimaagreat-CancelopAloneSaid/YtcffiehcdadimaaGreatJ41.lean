/- From what a row's arguments read to the data of law13: alone. -/
import Derived.Test.YtcffiehcdadimaaGreatJC
import Derived.Test.YtcffiehcdadimaaGreatHB
namespace Go.Proofs.YtcffiehcdadimaaGreat.Abs
open Go.Proofs
set_option maxRecDepth 10000
set_option linter.unusedSimpArgs false
set_option linter.unusedVariables false
theorem specCancelopAlone (rows : List (List D)) (h : AllR (ShapeD tab 5) [5, 22, 3] rows) : PSpec Tryz.prog 4 (List.zipWith (argV tab) [5, 22, 3] rows) (V.bool true) := by
  obtain ⟨_, _, rfl, h1, h⟩ := h.cons
  obtain ⟨_, _, rfl, h2, h⟩ := h.cons
  obtain ⟨_, _, rfl, h3, h⟩ := h.cons
  cases h.nil
  obtain ⟨c, rfl, hc⟩ := u8OfG h1
  obtain ⟨l, hl, rfl⟩ := opsSOf h2
  obtain ⟨raw, rfl, hr⟩ := intOfG h3
  exact cancelopAlone c hc l hl raw
end Go.Proofs.YtcffiehcdadimaaGreat.Abs
