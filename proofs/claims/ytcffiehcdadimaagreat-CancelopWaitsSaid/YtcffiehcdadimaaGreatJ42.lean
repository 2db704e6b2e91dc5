/- From what a row's arguments read to the data of law13: waiting. -/
import Derived.Test.YtcffiehcdadimaaGreatJ29
import Derived.Test.YtcffiehcdadimaaGreatHB
namespace Go.Proofs.YtcffiehcdadimaaGreat.Abs
open Go.Proofs
set_option maxRecDepth 10000
set_option linter.unusedSimpArgs false
set_option linter.unusedVariables false
theorem specCancelopWaits (rows : List (List D)) (h : AllR (ShapeD tab 5) [5, 22, 3, 5] rows) : PSpec Tryz.prog 5 (List.zipWith (argV tab) [5, 22, 3, 5] rows) (V.bool true) := by
  obtain ⟨_, _, rfl, h1, h⟩ := h.cons
  obtain ⟨_, _, rfl, h2, h⟩ := h.cons
  obtain ⟨_, _, rfl, h3, h⟩ := h.cons
  obtain ⟨_, _, rfl, h4, h⟩ := h.cons
  cases h.nil
  obtain ⟨c, rfl, hc⟩ := u8OfG h1
  obtain ⟨l, hl, rfl⟩ := opsSOf h2
  obtain ⟨raw, rfl, hr⟩ := intOfG h3
  obtain ⟨w, rfl, hw⟩ := u8OfG h4
  exact cancelopWaits c hc l hl raw w hw
end Go.Proofs.YtcffiehcdadimaaGreat.Abs
