/- For every input, EvkeyMatchesReference returns true, and what its arguments read is what they read before. No condition. -/
import Derived.Test.YtepepidjefpckaaRows
import Derived.Test.YtepepidjefpckaaE14
namespace Go.Proofs.Ytepepidjefpckaa.evkeyMatchesReference
open Abs
open Go.ChangeShapes Go.WideShapes Go.ChangeAt Go.RowKit
set_option linter.unusedVariables false

theorem own : ownKnob Try.prog.godebug = none := by kernel_rfl
set_option maxRecDepth 100000 in
theorem lifted (os : Os) (started : os.Started) (H : Type) (enc : TypeId × Value → H) :
    ReturnsInHanded {} Try.checked os 8 .any (Rows.evkeyMatchesReferenceSpec.pre6 enc Try.prog Try.f8 Rows.evkeyMatchesReferenceRow.domain false) (Rows.evkeyMatchesReferenceSpec.post enc Try.prog Try.f8 false true false false) := by
  refine returnsInHanded_of_change (C := Try.checked) own started (by kernel_rfl) Try.func8
    (ChangeSpec.witness6 (enc := enc) (C := Try.checked) false ⟨#[], #[.agg #[.int .i64 0, .int .i64 0, .int .i64 0], .agg #[.int .i64 0, .int .i64 0, .int .i64 0], .slice none 0 0, .slice none 0 0, .int .i64 0, .slice none 0 0], []⟩ 8 (by kernel_rfl) (by kernel_rfl) (by kernel_rfl) (by kernel_rfl)) ?_
  intro W base args ds gs before hval hW _ _
  exact rowCalls tab_ok 6 (congrArg Array.toList Try.params8) (by kernel_rfl) (by kernel_rfl) rfl (fun ds hds => by
    have hds : ds.length = 6 := hds
    match ds, hds with
    | [_, _, _, _, _, _], _ => rfl) rfl Try.underlying4 specMatches W base args ds gs before hval hW
theorem over : Rows.evkeyMatchesReferenceRow.holds Try.pinned (OpenSpec.ofChange Rows.evkeyMatchesReferenceSpec) :=
  OpenClaim.holds_of_wide 8 Try.f8 rfl rfl rfl rfl rfl rfl rfl ⟨rfl, rfl, rfl, rfl, rfl⟩ rfl rfl rfl rfl rfl (by kernel_rfl) Try.func8 (by kernel_rfl)
    (of_decide_eq_true (by kernel_rfl)) (by unfold Func.isWrapper; first | (rw [if_pos (by decide +kernel)]; kernel_rfl) | (rw [if_neg (by decide +kernel)]; exact ⟨rfl, rfl⟩))
    (fun os started H enc _ => lifted os started H enc)
theorem proved : Rows.EvkeyMatchesReferenceSaid :=
  over
#print axioms proved
end Go.Proofs.Ytepepidjefpckaa.evkeyMatchesReference
