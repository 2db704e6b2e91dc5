/- From what a row's arguments read to the data of law11: Peek and Drop. -/
import Derived.Test.YtajgcanfngcfhaaGreatI5
import Derived.Test.YtajgcanfngcfhaaGreatH20
namespace Go.Proofs.YtajgcanfngcfhaaGreat.Abs
open Go.Proofs
set_option maxRecDepth 10000
set_option linter.unusedSimpArgs false
set_option linter.unusedVariables false
theorem specStorePeeks (rows : List (List D)) (h : AllR (ShapeD tab 5) [5, 22, 54] rows) : PSpec Tryz.prog 5 (List.zipWith (argV tab) [5, 22, 54] rows) (V.bool true) := by
  obtain ⟨_, _, rfl, h1, h⟩ := h.cons
  obtain ⟨_, _, rfl, h2, h⟩ := h.cons
  obtain ⟨_, _, rfl, h3, h⟩ := h.cons
  cases h.nil
  obtain ⟨c, rfl, hc⟩ := u8OfG h1
  obtain ⟨l, hl, rfl⟩ := opsSOf h2
  obtain ⟨t, rfl, ht⟩ := u16OfG h3
  exact storePeeks c hc l hl t ht
end Go.Proofs.YtajgcanfngcfhaaGreat.Abs
