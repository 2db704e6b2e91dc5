/- What the rows of package evkey's laws read of their arguments, as the contracts have it. -/
import Derived.Test.YtepepidjefpckaaE3
import Derived.Test.YtepepidjefpckaaD2
namespace Go.Proofs.Ytepepidjefpckaa.Abs
open Go.Proofs
set_option maxRecDepth 10000
set_option linter.unusedVariables false
theorem itemOf {row : List D} (h : ShapeD tab 5 32 row) : ∃ x : Item, row = x.row := by
  have h : ShapeL (ShapeD tab 4) [(0, 3), (1, 3), (2, 3)] row := h
  obtain ⟨_, _, rfl, ⟨x, rfl, _⟩, _, _, rfl, ⟨y, rfl, _⟩, _, _, rfl, ⟨z, rfl, _⟩, rfl⟩ := h
  exact ⟨⟨x, y, z⟩, rfl⟩

theorem keyOf {m : Nat} {row : List D} (h : ShapeD tab (m + 2) 33 row) : ∃ k : List Int, row = [.lst 1 (k.map intD)] ∧ k.length ≤ maxLen := by
  obtain ⟨rows, rfl, hl, hr⟩ : ∃ rows, row = [.lst (sizeT tab 3) rows] ∧ rows.length ≤ maxLen ∧ ∀ r ∈ rows, ShapeD tab (m + 1) 3 r := h
  have : ∃ k : List Int, rows = k.map intD := by
    clear hl
    induction rows with
    | nil => exact ⟨[], rfl⟩
    | cons r rows ih =>
      obtain ⟨k, rfl⟩ := ih fun r h => hr r (by simp [h])
      obtain ⟨x, rfl, _⟩ : ∃ x : Int, r = [.c (.int .i64 x)] ∧ (Lit.int .i64 x).wf = true := hr r (by simp)
      exact ⟨x :: k, rfl⟩
  obtain ⟨k, rfl⟩ := this
  exact ⟨k, rfl, by simpa using hl⟩
theorem intOf {m : Nat} {row : List D} (h : ShapeD tab (m + 1) 3 row) : ∃ x : Int, row = [.c (.int .i64 x)] ∧ -9223372036854775808 ≤ x ∧ x ≤ 9223372036854775807 := by
  obtain ⟨x, rfl, hw⟩ : ∃ x : Int, row = [.c (.int .i64 x)] ∧ (Lit.int .i64 x).wf = true := h
  exact ⟨x, rfl, by simpa [Lit.wf, IntKind.min, IntKind.max, IntKind.signed, IntKind.bits] using hw⟩
theorem evOf {m : Nat} {row : List D} (h : ShapeD tab (m + 4) 38 row) : ∃ x : Ev, row = x.row ∧ x.key.length ≤ maxLen := by
  have h : ShapeL (ShapeD tab (m + 3)) [(0, 3), (1, 33), (2, 3), (3, 3), (4, 3), (5, 3)] row := h
  obtain ⟨_, _, rfl, h1, _, _, rfl, h2, _, _, rfl, h3, _, _, rfl, h4, _, _, rfl, h5, _, _, rfl, h6, rfl⟩ := h
  obtain ⟨a, rfl, _⟩ := intOf h1
  obtain ⟨k, rfl, hk⟩ := keyOf h2
  obtain ⟨b, rfl, _⟩ := intOf h3
  obtain ⟨c, rfl, _⟩ := intOf h4
  obtain ⟨d, rfl, _⟩ := intOf h5
  obtain ⟨e, rfl, _⟩ := intOf h6
  exact ⟨⟨a, k, b, c, d, e⟩, rfl, hk⟩
theorem specItems (rows : List (List D)) (h : AllR (ShapeD tab 5) [32, 32, 32] rows) : PSpec Try.prog 9 (List.zipWith (argV tab) [32, 32, 32] rows) (V.bool true) := by
  obtain ⟨_, _, rfl, h1, h⟩ := h.cons
  obtain ⟨_, _, rfl, h2, h⟩ := h.cons
  obtain ⟨_, _, rfl, h3, h⟩ := h.cons
  cases h.nil
  obtain ⟨x, rfl⟩ := itemOf h1
  obtain ⟨y, rfl⟩ := itemOf h2
  obtain ⟨z, rfl⟩ := itemOf h3
  exact evkeyItems x y z
end Go.Proofs.Ytepepidjefpckaa.Abs
