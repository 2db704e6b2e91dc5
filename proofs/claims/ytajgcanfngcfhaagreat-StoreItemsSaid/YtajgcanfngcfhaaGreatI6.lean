/- From what a row's arguments read to the data of law11: items. -/
import Derived.Test.YtajgcanfngcfhaaGreatI3
import Derived.Test.YtajgcanfngcfhaaGreatH20
namespace Go.Proofs.YtajgcanfngcfhaaGreat.Abs
open Go.Proofs
set_option maxRecDepth 10000
set_option linter.unusedSimpArgs false
set_option linter.unusedVariables false
theorem specStoreItems (rows : List (List D)) (h : AllR (ShapeD tab 5) [5, 22] rows) : PSpec Tryz.prog 4 (List.zipWith (argV tab) [5, 22] rows) (V.bool true) := by
  obtain ⟨_, _, rfl, h1, h⟩ := h.cons
  obtain ⟨_, _, rfl, h2, h⟩ := h.cons
  cases h.nil
  obtain ⟨c, rfl, hc⟩ := u8OfG h1
  obtain ⟨l, hl, rfl⟩ := opsSOf h2
  exact storeItems c hc l hl
end Go.Proofs.YtajgcanfngcfhaaGreat.Abs
