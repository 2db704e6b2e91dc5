/- From what a row's arguments read to the data of law11; the laws of handles and of touches. -/
import Derived.Test.YtajgcanfngcfhaaGreatH19
namespace Go.Proofs.YtajgcanfngcfhaaGreat.Abs
open Go.Proofs
set_option maxRecDepth 10000
set_option linter.unusedSimpArgs false
set_option linter.unusedVariables false
theorem u8OfG {m : Nat} {row : List D} (h : ShapeD tab (m + 1) 5 row) : ∃ x : Int, row = [.c (.int .u8 x)] ∧ 0 ≤ x ∧ x ≤ 255 := by
  obtain ⟨x, rfl, hw⟩ : ∃ x : Int, row = [.c (.int .u8 x)] ∧ (Lit.int .u8 x).wf = true := h
  exact ⟨x, rfl, by simpa [Lit.wf, IntKind.min, IntKind.max, IntKind.signed, IntKind.bits] using hw⟩
theorem u64OfG {m : Nat} {row : List D} (h : ShapeD tab (m + 1) 28 row) : ∃ x : Int, row = [.c (.int .u64 x)] ∧ 0 ≤ x ∧ x ≤ 18446744073709551615 := by
  obtain ⟨x, rfl, hw⟩ : ∃ x : Int, row = [.c (.int .u64 x)] ∧ (Lit.int .u64 x).wf = true := h
  exact ⟨x, rfl, by simpa [Lit.wf, IntKind.min, IntKind.max, IntKind.signed, IntKind.bits] using hw⟩
theorem opSOf {m : Nat} {row : List D} (h : ShapeD tab (m + 2) 30 row) : ∃ x : { o : OpS // o.Ok }, row = x.1.row := by
  have h : ShapeL (ShapeD tab (m + 1)) [(0, 5), (1, 28), (2, 4)] row := h
  obtain ⟨_, _, rfl, h1, _, _, rfl, h2, _, _, rfl, ⟨c, rfl⟩, rfl⟩ := h
  obtain ⟨a, rfl, ha⟩ := u8OfG h1
  obtain ⟨b, rfl, hb⟩ := u64OfG h2
  exact ⟨⟨⟨a, b, c⟩, ha, hb⟩, rfl⟩
theorem opsSOf {m : Nat} {row : List D} (h : ShapeD tab (m + 3) 22 row) : ∃ l : List OpS, (∀ o ∈ l, o.Ok) ∧ row = [.lst 3 (l.map OpS.row)] := by
  obtain ⟨l, rfl⟩ := lstOfG (f := fun x : { o : OpS // o.Ok } => x.1.row) (sz := 3) rfl rfl (fun r hr => opSOf hr) h
  refine ⟨l.map Subtype.val, fun o ho => ?_, by rw [List.map_map]; rfl⟩
  obtain ⟨x, _, rfl⟩ := List.mem_map.1 ho
  exact x.2
end Go.Proofs.YtajgcanfngcfhaaGreat.Abs
