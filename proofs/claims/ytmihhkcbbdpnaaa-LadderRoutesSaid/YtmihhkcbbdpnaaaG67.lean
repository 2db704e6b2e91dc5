/- From what a row's arguments read to the data of law08. -/
import Derived.Test.YtmihhkcbbdpnaaaG66
namespace Go.Proofs.Ytmihhkcbbdpnaaa.Abs
open Go.Proofs
set_option maxRecDepth 10000
set_option linter.unusedSimpArgs false
set_option linter.unusedVariables false
theorem u64OfG {m : Nat} {row : List D} (h : ShapeD tab (m + 1) 78 row) : ∃ x : Int, row = [.c (.int .u64 x)] ∧ 0 ≤ x ∧ x ≤ 18446744073709551615 := by
  obtain ⟨x, rfl, hw⟩ : ∃ x : Int, row = [.c (.int .u64 x)] ∧ (Lit.int .u64 x).wf = true := h
  exact ⟨x, rfl, by simpa [Lit.wf, IntKind.min, IntKind.max, IntKind.signed, IntKind.bits] using hw⟩
theorem op8Of {m : Nat} {row : List D} (h : ShapeD tab (m + 2) 80 row) : ∃ x : { o : Op8 // o.Ok }, row = x.1.row := by
  have h : ShapeL (ShapeD tab (m + 1)) [(0, 4), (1, 78), (2, 4)] row := h
  obtain ⟨_, _, rfl, ⟨a, rfl⟩, _, _, rfl, h2, _, _, rfl, ⟨c, rfl⟩, rfl⟩ := h
  obtain ⟨b, rfl, hb⟩ := u64OfG h2
  exact ⟨⟨⟨a, b, c⟩, hb⟩, rfl⟩
theorem ops8Of {m : Nat} {row : List D} (h : ShapeD tab (m + 3) 77 row) : ∃ l : List Op8, (∀ o ∈ l, o.Ok) ∧ row = [.lst 3 (l.map Op8.row)] := by
  obtain ⟨l, rfl⟩ := lstOfG (f := fun x : { o : Op8 // o.Ok } => x.1.row) (sz := 3) rfl rfl (fun r hr => op8Of hr) h
  refine ⟨l.map Subtype.val, fun o ho => ?_, by rw [List.map_map]; rfl⟩
  obtain ⟨x, _, rfl⟩ := List.mem_map.1 ho
  exact x.2
theorem specLInvariant (rows : List (List D)) (h : AllR (ShapeD tab 5) [77, 80] rows) : PSpec Try.prog 14 (List.zipWith (argV tab) [77, 80] rows) (V.bool true) := by
  obtain ⟨_, _, rfl, h1, h⟩ := h.cons
  obtain ⟨_, _, rfl, h2, h⟩ := h.cons
  cases h.nil
  obtain ⟨l, hl, rfl⟩ := ops8Of h1
  obtain ⟨⟨o, ho⟩, rfl⟩ := op8Of h2
  exact lInvariant l hl o ho
end Go.Proofs.Ytmihhkcbbdpnaaa.Abs
