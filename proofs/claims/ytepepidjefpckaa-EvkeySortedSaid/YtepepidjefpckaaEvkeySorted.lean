/- For every input, EvkeySorted returns true, and what its arguments read is what they read before. No condition. -/
import Derived.Test.YtepepidjefpckaaRows
import Derived.Test.YtepepidjefpckaaE15
namespace Go.Proofs.Ytepepidjefpckaa.evkeySorted
open Abs
open Go.ChangeShapes Go.WideShapes Go.ChangeAt Go.RowKit
set_option linter.unusedVariables false

theorem own : ownKnob Try.prog.godebug = none := by kernel_rfl
set_option maxRecDepth 100000 in
theorem lifted (os : Os) (started : os.Started) (H : Type) (enc : TypeId × Value → H) :
    ReturnsInHanded {} Try.checked os 12 .any (Rows.evkeySortedSpec.pre6 enc Try.prog Try.f12 Rows.evkeySortedRow.domain false) (Rows.evkeySortedSpec.post enc Try.prog Try.f12 false true false false) := by
  refine returnsInHanded_of_change (C := Try.checked) own started (by kernel_rfl) Try.func12
    (ChangeSpec.witness6 (enc := enc) (C := Try.checked) false ⟨#[], #[.slice none 0 0], []⟩ 8 (by kernel_rfl) (by kernel_rfl) (by kernel_rfl) (by kernel_rfl)) ?_
  intro W base args ds gs before hval hW _ _
  exact rowCalls tab_ok 6 (congrArg Array.toList Try.params12) (by kernel_rfl) (by kernel_rfl) rfl (fun ds hds => by
    have hds : ds.length = 1 := hds
    match ds, hds with
    | [_], _ => rfl) rfl Try.underlying4 specSorted W base args ds gs before hval hW
theorem over : Rows.evkeySortedRow.holds Try.pinned (OpenSpec.ofChange Rows.evkeySortedSpec) :=
  OpenClaim.holds_of_wide 12 Try.f12 rfl rfl rfl rfl rfl rfl rfl ⟨rfl, rfl, rfl, rfl, rfl⟩ rfl rfl rfl rfl rfl (by kernel_rfl) Try.func12 (by kernel_rfl)
    (of_decide_eq_true (by kernel_rfl)) (by unfold Func.isWrapper; first | (rw [if_pos (by decide +kernel)]; kernel_rfl) | (rw [if_neg (by decide +kernel)]; exact ⟨rfl, rfl⟩))
    (fun os started H enc _ => lifted os started H enc)
theorem proved : Rows.EvkeySortedSaid :=
  over
#print axioms proved
end Go.Proofs.Ytepepidjefpckaa.evkeySorted
