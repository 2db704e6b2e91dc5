/- For every input, WorkloadMatchesReference returns true, and what its arguments read is what they read before. No condition. -/
import Derived.Test.YtmihhkcbbdpnaaaFacts
import Derived.Test.YtmihhkcbbdpnaaaK2
namespace Go.Proofs.Ytmihhkcbbdpnaaa.workloadMatchesReference
open Abs
open Go.ChangeShapes Go.WideShapes Go.ChangeAt Go.RowKit
set_option linter.unusedVariables false

theorem own : ownKnob Try.prog.godebug = none := by kernel_rfl
set_option maxRecDepth 100000
theorem lifted (os : Os) (started : os.Started) (H : Type) (enc : TypeId × Value → H) :
    ReturnsInHanded {} Try.checked os 9 .any (Rows.workloadMatchesReferenceSpec.pre6 enc Try.prog Try.f9 Rows.workloadMatchesReferenceRow.domain false) (Rows.workloadMatchesReferenceSpec.post enc Try.prog Try.f9 false true false false) := by
  refine returnsInHanded_of_change (C := Try.checked) own started (by kernel_rfl) Try.func9
    (ChangeSpec.witness6 (enc := enc) (C := Try.checked) false ⟨#[], #[.slice none 0 0, .int .u16 0], []⟩ 8 (by kernel_rfl) (by kernel_rfl) (by kernel_rfl) (by kernel_rfl)) ?_
  intro W base args ds gs before hval hW _ _
  exact rowCalls tab_ok 5 (congrArg Array.toList Try.params9) (by kernel_rfl) (by kernel_rfl) rfl (fun ds hds => by
    have hds : ds.length = 2 := hds
    match ds, hds with
    | [_, _], _ => rfl) rfl Try.underlying4 specWMatches W base args ds gs before hval hW
theorem k0 : (Rows.workloadMatchesReferenceRow.wf (OpenSpec.ofChange Rows.workloadMatchesReferenceSpec)) = true := by kernel_rfl
theorem k3 : (Try.f9.params.all (Try.prog.readableRec ·)) = true := by kernel_rfl
theorem k4 : (namedTie Try.prog Rows.workloadMatchesReferenceRow.named Rows.workloadMatchesReferenceSpec.vars) = true := by kernel_rfl
theorem k5 : ((Rows.workloadMatchesReferenceRow.stops == [])) = true := by kernel_rfl
theorem k7 : ((Rows.workloadMatchesReferenceRow.knobs == [])) = true := by kernel_rfl
theorem k9 : ((Rows.workloadMatchesReferenceRow.inPlace == Try.prog.inPlace 9)) = true := by kernel_rfl
theorem k10 : ((Rows.workloadMatchesReferenceRow.unfollowed == Try.prog.unfollowed 9)) = true := by kernel_rfl
theorem k11 : ((Rows.workloadMatchesReferenceRow.recurses == Try.prog.recurses 9)) = true := by kernel_rfl
theorem k12 : ((Rows.workloadMatchesReferenceRow.named == Try.prog.varsNamed 9)) = true := by kernel_rfl
theorem k13 : ((Rows.workloadMatchesReferenceRow.maps == (Try.f9.params.toList ++ Rows.workloadMatchesReferenceSpec.plain.varTypes Try.prog).any (Try.prog.mapsRec ·))) = true := by kernel_rfl
theorem k14 : ((Rows.workloadMatchesReferenceRow.ifaces == (Try.f9.params.toList ++ Rows.workloadMatchesReferenceSpec.plain.varTypes Try.prog).any (Try.prog.ifacesRec ·))) = true := by kernel_rfl
theorem k15 : ((Rows.workloadMatchesReferenceRow.mapsOut == Try.prog.mapsAmong Try.f9.resultTypes.toList)) = true := by kernel_rfl
theorem k16 : ((Rows.workloadMatchesReferenceRow.loops == (Try.f9.params.toList ++ Rows.workloadMatchesReferenceSpec.plain.varTypes Try.prog).any (Try.prog.loopsFrom ·))) = true := by kernel_rfl
theorem k17 : ((Rows.workloadMatchesReferenceRow.wideKeys == (Try.f9.params.toList ++ Rows.workloadMatchesReferenceSpec.plain.varTypes Try.prog ++ Try.f9.resultTypes.toList).any (Try.prog.wideKeysFrom ·))) = true := by kernel_rfl
theorem k18 : (Rows.workloadMatchesReferenceSpec.vars.all (Try.prog.varReadable ·)) = true := by kernel_rfl
theorem k19 : (Try.f9.resultTypes.all (fun t => Try.prog.readableRec t && decide (t < Try.prog.types.size))) = true := by kernel_rfl
theorem k20 : ((Rows.workloadMatchesReferenceRow.ifacesOut == Try.f9.resultTypes.toList.any (Try.prog.ifacesRec ·))) = true := by kernel_rfl
theorem k21 : ((Rows.workloadMatchesReferenceRow.loopsOut == Try.f9.resultTypes.toList.any (Try.prog.loopsFrom ·))) = true := by kernel_rfl
theorem k22 : ((Rows.workloadMatchesReferenceRow.plainKeys == Try.prog.plainKeys)) = true := by kernel_rfl
theorem k23 : (Rows.workloadMatchesReferenceRow.shortTexts.isNone) = true := by kernel_rfl
theorem k26 : ((Rows.workloadMatchesReferenceRow.lifted == Try.prog.liftsFinal)) = true := by rw [Facts.lifts]; kernel_rfl
theorem k27 : ((Try.prog.make == some Rows.workloadMatchesReferenceRow.make)) = true := by rw [Facts.made]; kernel_rfl
theorem k28 : ((Rows.workloadMatchesReferenceRow.kinds == (if Rows.workloadMatchesReferenceRow.domain.isEmpty then [] else Try.f9.params.toList.map fun t => match Try.prog.underlying t with | some (.int k) => some k | _ => none))) = true := by kernel_rfl
theorem k29 : ((Rows.workloadMatchesReferenceRow.pinned == Rows.workloadMatchesReferenceRow.pinnedBy)) = true := by kernel_rfl
theorem k30 : ((Rows.workloadMatchesReferenceRow.veiled == (Try.f9.params.toList ++ Rows.workloadMatchesReferenceSpec.plain.varTypes Try.prog ++ Try.f9.resultTypes.toList).any (Try.prog.veiledRec ·))) = true := by kernel_rfl
theorem k31 : (Rows.workloadMatchesReferenceRow.veiledFits Try.prog Try.f9.params.toList (Try.f9.params.toList ++ Rows.workloadMatchesReferenceSpec.plain.varTypes Try.prog ++ Try.f9.resultTypes.toList)) = true := by kernel_rfl
theorem joined : joinedFacts Try.prog 9 Try.f9 Rows.workloadMatchesReferenceSpec Rows.workloadMatchesReferenceRow = true := (Facts.and2 (Facts.and2 (Facts.and2 (Facts.and2 (Facts.and2 (Facts.and2 (Facts.and2 (Facts.and2 (Facts.and2 (Facts.and2 (Facts.and2 (Facts.and2 (Facts.and2 (Facts.and2 (Facts.and2 (Facts.and2 (Facts.and2 (Facts.and2 (Facts.and2 (Facts.and2 (Facts.and2 (Facts.and2 (Facts.and2 (Facts.and2 (Facts.and2 (Facts.and2 (Facts.and2 (Facts.and2 (Facts.and2 (Facts.and2 (Facts.and2 k0 Facts.laid) Facts.mapsR) k3) k4) k5) Facts.st) k7) Facts.stk) k9) k10) k11) k12) k13) k14) k15) k16) k17) k18) k19) k20) k21) k22) k23) Facts.heard) Facts.enter) k26) k27) k28) k29) k30) k31)
theorem named : Try.prog.funcNamed Rows.workloadMatchesReferenceRow.func = some 9 := by kernel_rfl
theorem inst : Func.isInstance Try.prog Try.f9 Rows.workloadMatchesReferenceRow.origin Rows.workloadMatchesReferenceRow.targs := of_decide_eq_true (by kernel_rfl)
theorem wrap : Func.isWrapper Try.prog Try.f9 Rows.workloadMatchesReferenceRow.wrapper Rows.workloadMatchesReferenceRow.mainSum := by unfold Func.isWrapper; first | (rw [if_pos (by decide +kernel)]; kernel_rfl) | (rw [if_neg (by decide +kernel)]; exact ⟨rfl, rfl⟩)
theorem over : Rows.workloadMatchesReferenceRow.holds Try.pinned (OpenSpec.ofChange Rows.workloadMatchesReferenceSpec) :=
  OpenClaim.holds_of_wide 9 Try.f9 rfl rfl rfl rfl rfl rfl rfl ⟨rfl, rfl, rfl, rfl, rfl⟩ rfl rfl rfl rfl rfl named Try.func9 joined inst wrap
    (fun os started H enc _ => lifted os started H enc)
theorem proved : Rows.WorkloadMatchesReferenceSaid :=
  over
#print axioms proved
end Go.Proofs.Ytmihhkcbbdpnaaa.workloadMatchesReference
