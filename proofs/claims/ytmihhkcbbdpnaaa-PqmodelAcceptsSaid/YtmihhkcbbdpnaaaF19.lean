/- From what the rows' arguments read: capacity, acceptance. -/
import Derived.Test.YtmihhkcbbdpnaaaF18
namespace Go.Proofs.Ytmihhkcbbdpnaaa.Abs
open Go.Proofs
set_option maxRecDepth 10000
set_option linter.unusedSimpArgs false
set_option linter.unusedVariables false
theorem specCapacity (rows : List (List D)) (h : AllR (ShapeD tab 6) [5, 26, 55, 3, 3] rows) : PSpec Try.prog 7 (List.zipWith (argV tab) [5, 26, 55, 3, 3] rows) (V.bool true) := by
  obtain ⟨_, _, rfl, h1, h⟩ := h.cons
  obtain ⟨_, _, rfl, h2, h⟩ := h.cons
  obtain ⟨_, _, rfl, h3, h⟩ := h.cons
  obtain ⟨_, _, rfl, h4, h⟩ := h.cons
  obtain ⟨_, _, rfl, h5, h⟩ := h.cons
  cases h.nil
  obtain ⟨k, rfl, hk⟩ := u8Of h1
  obtain ⟨l, rfl⟩ := stpsOf h2
  obtain ⟨t, rfl, ht⟩ := u32Of h3
  obtain ⟨a, rfl, _⟩ := intOf h4
  obtain ⟨b, rfl, _⟩ := intOf h5
  exact pqCapacity k l t a b hk ht
theorem specAccepts (rows : List (List D)) (h : AllR (ShapeD tab 6) [5, 26, 30, 51] rows) : PSpec Try.prog 8 (List.zipWith (argV tab) [5, 26, 30, 51] rows) (V.bool true) := by
  obtain ⟨_, _, rfl, h1, h⟩ := h.cons
  obtain ⟨_, _, rfl, h2, h⟩ := h.cons
  obtain ⟨_, _, rfl, h3, h⟩ := h.cons
  obtain ⟨_, _, rfl, h4, h⟩ := h.cons
  cases h.nil
  obtain ⟨k, rfl, hk⟩ := u8Of h1
  obtain ⟨l, rfl⟩ := stpsOf h2
  obtain ⟨s, rfl⟩ := stpOf h3
  obtain ⟨x, rfl⟩ := evtOf h4
  exact pqAccepts k l s x hk
end Go.Proofs.Ytmihhkcbbdpnaaa.Abs
