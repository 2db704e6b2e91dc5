/- From what a row's arguments read to the data of law12: beside the reference. -/
import Derived.Test.YtcffiehcdadimaaGreatM23
import Derived.Test.YtcffiehcdadimaaGreatHB
namespace Go.Proofs.YtcffiehcdadimaaGreat.Abs
open Go.Proofs
set_option maxRecDepth 10000
set_option linter.unusedSimpArgs false
set_option linter.unusedVariables false
theorem u8sOfG {m : Nat} {row : List D} (h : ShapeD tab (m + 2) 23 row) : ∃ l : List Int, (∀ y ∈ l, 0 ≤ y ∧ y ≤ 255) ∧ row = [.lst 1 (l.map u8D)] := by
 obtain ⟨l, rfl⟩ := lstOfG (f := fun x : { y : Int // 0 ≤ y ∧ y ≤ 255 } => u8D x.1) (sz := 1) rfl rfl (fun r hr => by obtain ⟨x, rfl, hx⟩ := u8OfG hr; exact ⟨⟨x, hx⟩, rfl⟩) h
 refine ⟨l.map Subtype.val, fun y hy => ?_, by rw [List.map_map]; rfl⟩
 obtain ⟨x, _, rfl⟩ := List.mem_map.1 hy
 exact x.2
theorem intsOfG {m : Nat} {row : List D} (h : ShapeD tab (m + 2) 36 row) : ∃ l : List Int, row = [.lst 1 (l.map intD)] := by
 obtain ⟨l, rfl⟩ := lstOfG (f := intD) (sz := 1) rfl rfl (fun r hr => by obtain ⟨x, rfl, hx⟩ := intOfG hr; exact ⟨x, rfl⟩) h
 exact ⟨l, rfl⟩
theorem args12 {f : FuncId} (hf : ∀ c : Int, 0 ≤ c ∧ c ≤ 255 → ∀ l : List OpS, (∀ o ∈ l, o.Ok) → ∀ times picks : List Int, (∀ y ∈ picks, 0 ≤ y ∧ y ≤ 255) → PSpec Tryz.prog f [.c (.int .u8 c), opsSV l, intsV times, u8sV picks] (V.bool true))
 (rows : List (List D)) (h : AllR (ShapeD tab 5) [5, 22, 36, 23] rows) : PSpec Tryz.prog f (List.zipWith (argV tab) [5, 22, 36, 23] rows) (V.bool true) := by
 obtain ⟨_, _, rfl, h1, h⟩ := h.cons
 obtain ⟨_, _, rfl, h2, h⟩ := h.cons
 obtain ⟨_, _, rfl, h3, h⟩ := h.cons
 obtain ⟨_, _, rfl, h4, h⟩ := h.cons
 cases h.nil
 obtain ⟨c, rfl, hc⟩ := u8OfG h1
 obtain ⟨l, hl, rfl⟩ := opsSOf h2
 obtain ⟨hs, rfl⟩ := intsOfG h3
 obtain ⟨p, hp, rfl⟩ := u8sOfG h4
 exact hf c hc l hl hs p hp
theorem specInsertopMatchesReference (rows : List (List D)) (h : AllR (ShapeD tab 5) [5, 22, 36, 23] rows) : PSpec Tryz.prog 10 (List.zipWith (argV tab) [5, 22, 36, 23] rows) (V.bool true) :=
 args12 insertopMatches rows h
end Go.Proofs.YtcffiehcdadimaaGreat.Abs
