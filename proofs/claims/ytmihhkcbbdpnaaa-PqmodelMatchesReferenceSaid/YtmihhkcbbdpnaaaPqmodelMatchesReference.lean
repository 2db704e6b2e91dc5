/- For every input, PqmodelMatchesReference returns true, and what its arguments read is what they read before. No condition. -/
import Derived.Test.YtmihhkcbbdpnaaaFacts
import Derived.Test.YtmihhkcbbdpnaaaF16
namespace Go.Proofs.Ytmihhkcbbdpnaaa.pqmodelMatchesReference
open Abs
open Go.ChangeShapes Go.WideShapes Go.ChangeAt Go.RowKit
set_option linter.unusedVariables false

theorem own : ownKnob Try.prog.godebug = none := by kernel_rfl
set_option maxRecDepth 100000
theorem lifted (os : Os) (started : os.Started) (H : Type) (enc : TypeId × Value → H) :
    ReturnsInHanded {} Try.checked os 3 .any (Rows.pqmodelMatchesReferenceSpec.pre6 enc Try.prog Try.f3 Rows.pqmodelMatchesReferenceRow.domain false) (Rows.pqmodelMatchesReferenceSpec.post enc Try.prog Try.f3 false true false false) := by
  refine returnsInHanded_of_change (C := Try.checked) own started (by kernel_rfl) Try.func3
    (ChangeSpec.witness6 (enc := enc) (C := Try.checked) false ⟨#[], #[.agg #[.int .i64 0, .slice none 0 0, .int .i64 0, .slice none 0 0], .int .u8 0, .slice none 0 0, .agg #[.int .i64 0, .int .i64 0, .int .i64 0, .int .i64 0, .int .i64 0, .int .i64 0], .agg #[.int .i64 0, .int .i64 0, .bool false, .slice none 0 0], .int .i64 0], []⟩ 8 (by kernel_rfl) (by kernel_rfl) (by kernel_rfl) (by kernel_rfl)) ?_
  intro W base args ds gs before hval hW _ _
  exact rowCalls tab_ok 6 (congrArg Array.toList Try.params3) (by kernel_rfl) (by kernel_rfl) rfl (fun ds hds => by
    have hds : ds.length = 6 := hds
    match ds, hds with
    | [_, _, _, _, _, _], _ => rfl) rfl Try.underlying4 specMatches W base args ds gs before hval hW
theorem k0 : (Rows.pqmodelMatchesReferenceRow.wf (OpenSpec.ofChange Rows.pqmodelMatchesReferenceSpec)) = true := by kernel_rfl
theorem k3 : (Try.f3.params.all (Try.prog.readableRec ·)) = true := by kernel_rfl
theorem k4 : (namedTie Try.prog Rows.pqmodelMatchesReferenceRow.named Rows.pqmodelMatchesReferenceSpec.vars) = true := by kernel_rfl
theorem k5 : ((Rows.pqmodelMatchesReferenceRow.stops == [])) = true := by kernel_rfl
theorem k7 : ((Rows.pqmodelMatchesReferenceRow.knobs == [])) = true := by kernel_rfl
theorem k9 : ((Rows.pqmodelMatchesReferenceRow.inPlace == Try.prog.inPlace 3)) = true := by kernel_rfl
theorem k10 : ((Rows.pqmodelMatchesReferenceRow.unfollowed == Try.prog.unfollowed 3)) = true := by kernel_rfl
theorem k11 : ((Rows.pqmodelMatchesReferenceRow.recurses == Try.prog.recurses 3)) = true := by kernel_rfl
theorem k12 : ((Rows.pqmodelMatchesReferenceRow.named == Try.prog.varsNamed 3)) = true := by kernel_rfl
theorem k13 : ((Rows.pqmodelMatchesReferenceRow.maps == (Try.f3.params.toList ++ Rows.pqmodelMatchesReferenceSpec.plain.varTypes Try.prog).any (Try.prog.mapsRec ·))) = true := by kernel_rfl
theorem k14 : ((Rows.pqmodelMatchesReferenceRow.ifaces == (Try.f3.params.toList ++ Rows.pqmodelMatchesReferenceSpec.plain.varTypes Try.prog).any (Try.prog.ifacesRec ·))) = true := by kernel_rfl
theorem k15 : ((Rows.pqmodelMatchesReferenceRow.mapsOut == Try.prog.mapsAmong Try.f3.resultTypes.toList)) = true := by kernel_rfl
theorem k16 : ((Rows.pqmodelMatchesReferenceRow.loops == (Try.f3.params.toList ++ Rows.pqmodelMatchesReferenceSpec.plain.varTypes Try.prog).any (Try.prog.loopsFrom ·))) = true := by kernel_rfl
theorem k17 : ((Rows.pqmodelMatchesReferenceRow.wideKeys == (Try.f3.params.toList ++ Rows.pqmodelMatchesReferenceSpec.plain.varTypes Try.prog ++ Try.f3.resultTypes.toList).any (Try.prog.wideKeysFrom ·))) = true := by kernel_rfl
theorem k18 : (Rows.pqmodelMatchesReferenceSpec.vars.all (Try.prog.varReadable ·)) = true := by kernel_rfl
theorem k19 : (Try.f3.resultTypes.all (fun t => Try.prog.readableRec t && decide (t < Try.prog.types.size))) = true := by kernel_rfl
theorem k20 : ((Rows.pqmodelMatchesReferenceRow.ifacesOut == Try.f3.resultTypes.toList.any (Try.prog.ifacesRec ·))) = true := by kernel_rfl
theorem k21 : ((Rows.pqmodelMatchesReferenceRow.loopsOut == Try.f3.resultTypes.toList.any (Try.prog.loopsFrom ·))) = true := by kernel_rfl
theorem k22 : ((Rows.pqmodelMatchesReferenceRow.plainKeys == Try.prog.plainKeys)) = true := by kernel_rfl
theorem k23 : (Rows.pqmodelMatchesReferenceRow.shortTexts.isNone) = true := by kernel_rfl
theorem k26 : ((Rows.pqmodelMatchesReferenceRow.lifted == Try.prog.liftsFinal)) = true := by rw [Facts.lifts]; kernel_rfl
theorem k27 : ((Try.prog.make == some Rows.pqmodelMatchesReferenceRow.make)) = true := by rw [Facts.made]; kernel_rfl
theorem k28 : ((Rows.pqmodelMatchesReferenceRow.kinds == (if Rows.pqmodelMatchesReferenceRow.domain.isEmpty then [] else Try.f3.params.toList.map fun t => match Try.prog.underlying t with | some (.int k) => some k | _ => none))) = true := by kernel_rfl
theorem k29 : ((Rows.pqmodelMatchesReferenceRow.pinned == Rows.pqmodelMatchesReferenceRow.pinnedBy)) = true := by kernel_rfl
theorem k30 : ((Rows.pqmodelMatchesReferenceRow.veiled == (Try.f3.params.toList ++ Rows.pqmodelMatchesReferenceSpec.plain.varTypes Try.prog ++ Try.f3.resultTypes.toList).any (Try.prog.veiledRec ·))) = true := by kernel_rfl
theorem k31 : (Rows.pqmodelMatchesReferenceRow.veiledFits Try.prog Try.f3.params.toList (Try.f3.params.toList ++ Rows.pqmodelMatchesReferenceSpec.plain.varTypes Try.prog ++ Try.f3.resultTypes.toList)) = true := by kernel_rfl
theorem joined : joinedFacts Try.prog 3 Try.f3 Rows.pqmodelMatchesReferenceSpec Rows.pqmodelMatchesReferenceRow = true := (Facts.and2 (Facts.and2 (Facts.and2 (Facts.and2 (Facts.and2 (Facts.and2 (Facts.and2 (Facts.and2 (Facts.and2 (Facts.and2 (Facts.and2 (Facts.and2 (Facts.and2 (Facts.and2 (Facts.and2 (Facts.and2 (Facts.and2 (Facts.and2 (Facts.and2 (Facts.and2 (Facts.and2 (Facts.and2 (Facts.and2 (Facts.and2 (Facts.and2 (Facts.and2 (Facts.and2 (Facts.and2 (Facts.and2 (Facts.and2 (Facts.and2 k0 Facts.laid) Facts.mapsR) k3) k4) k5) Facts.st) k7) Facts.stk) k9) k10) k11) k12) k13) k14) k15) k16) k17) k18) k19) k20) k21) k22) k23) Facts.heard) Facts.enter) k26) k27) k28) k29) k30) k31)
theorem named : Try.prog.funcNamed Rows.pqmodelMatchesReferenceRow.func = some 3 := by kernel_rfl
theorem inst : Func.isInstance Try.prog Try.f3 Rows.pqmodelMatchesReferenceRow.origin Rows.pqmodelMatchesReferenceRow.targs := of_decide_eq_true (by kernel_rfl)
theorem wrap : Func.isWrapper Try.prog Try.f3 Rows.pqmodelMatchesReferenceRow.wrapper Rows.pqmodelMatchesReferenceRow.mainSum := by unfold Func.isWrapper; first | (rw [if_pos (by decide +kernel)]; kernel_rfl) | (rw [if_neg (by decide +kernel)]; exact ⟨rfl, rfl⟩)
theorem over : Rows.pqmodelMatchesReferenceRow.holds Try.pinned (OpenSpec.ofChange Rows.pqmodelMatchesReferenceSpec) :=
  OpenClaim.holds_of_wide 3 Try.f3 rfl rfl rfl rfl rfl rfl rfl ⟨rfl, rfl, rfl, rfl, rfl⟩ rfl rfl rfl rfl rfl named Try.func3 joined inst wrap
    (fun os started H enc _ => lifted os started H enc)
theorem proved : Rows.PqmodelMatchesReferenceSaid :=
  over
#print axioms proved
end Go.Proofs.Ytmihhkcbbdpnaaa.pqmodelMatchesReference
