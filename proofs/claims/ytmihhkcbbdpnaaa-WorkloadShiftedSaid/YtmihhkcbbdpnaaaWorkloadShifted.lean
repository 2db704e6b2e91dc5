/- For every input, WorkloadShifted returns true, and what its arguments read is what they read before. No condition. -/
import Derived.Test.YtmihhkcbbdpnaaaFacts
import Derived.Test.YtmihhkcbbdpnaaaG51
namespace Go.Proofs.Ytmihhkcbbdpnaaa.workloadShifted
open Abs
open Go.ChangeShapes Go.WideShapes Go.ChangeAt Go.RowKit
set_option linter.unusedVariables false

theorem own : ownKnob Try.prog.godebug = none := by kernel_rfl
set_option maxRecDepth 100000
theorem lifted (os : Os) (started : os.Started) (H : Type) (enc : TypeId × Value → H) :
    ReturnsInHanded {} Try.checked os 13 .any (Rows.workloadShiftedSpec.pre6 enc Try.prog Try.f13 Rows.workloadShiftedRow.domain false) (Rows.workloadShiftedSpec.post enc Try.prog Try.f13 false true false false) := by
  refine returnsInHanded_of_change (C := Try.checked) own started (by kernel_rfl) Try.func13
    (ChangeSpec.witness6 (enc := enc) (C := Try.checked) false ⟨#[], #[.slice none 0 0, .int .u32 0], []⟩ 8 (by kernel_rfl) (by kernel_rfl) (by kernel_rfl) (by kernel_rfl)) ?_
  intro W base args ds gs before hval hW _ _
  exact rowCalls tab_ok 5 (congrArg Array.toList Try.params13) (by kernel_rfl) (by kernel_rfl) rfl (fun ds hds => by
    have hds : ds.length = 2 := hds
    match ds, hds with
    | [_, _], _ => rfl) rfl Try.underlying4 specShifted W base args ds gs before hval hW
theorem k0 : (Rows.workloadShiftedRow.wf (OpenSpec.ofChange Rows.workloadShiftedSpec)) = true := by kernel_rfl
theorem k3 : (Try.f13.params.all (Try.prog.readableRec ·)) = true := by kernel_rfl
theorem k4 : (namedTie Try.prog Rows.workloadShiftedRow.named Rows.workloadShiftedSpec.vars) = true := by kernel_rfl
theorem k5 : ((Rows.workloadShiftedRow.stops == [])) = true := by kernel_rfl
theorem k7 : ((Rows.workloadShiftedRow.knobs == [])) = true := by kernel_rfl
theorem k9 : ((Rows.workloadShiftedRow.inPlace == Try.prog.inPlace 13)) = true := by kernel_rfl
theorem k10 : ((Rows.workloadShiftedRow.unfollowed == Try.prog.unfollowed 13)) = true := by kernel_rfl
theorem k11 : ((Rows.workloadShiftedRow.recurses == Try.prog.recurses 13)) = true := by kernel_rfl
theorem k12 : ((Rows.workloadShiftedRow.named == Try.prog.varsNamed 13)) = true := by kernel_rfl
theorem k13 : ((Rows.workloadShiftedRow.maps == (Try.f13.params.toList ++ Rows.workloadShiftedSpec.plain.varTypes Try.prog).any (Try.prog.mapsRec ·))) = true := by kernel_rfl
theorem k14 : ((Rows.workloadShiftedRow.ifaces == (Try.f13.params.toList ++ Rows.workloadShiftedSpec.plain.varTypes Try.prog).any (Try.prog.ifacesRec ·))) = true := by kernel_rfl
theorem k15 : ((Rows.workloadShiftedRow.mapsOut == Try.prog.mapsAmong Try.f13.resultTypes.toList)) = true := by kernel_rfl
theorem k16 : ((Rows.workloadShiftedRow.loops == (Try.f13.params.toList ++ Rows.workloadShiftedSpec.plain.varTypes Try.prog).any (Try.prog.loopsFrom ·))) = true := by kernel_rfl
theorem k17 : ((Rows.workloadShiftedRow.wideKeys == (Try.f13.params.toList ++ Rows.workloadShiftedSpec.plain.varTypes Try.prog ++ Try.f13.resultTypes.toList).any (Try.prog.wideKeysFrom ·))) = true := by kernel_rfl
theorem k18 : (Rows.workloadShiftedSpec.vars.all (Try.prog.varReadable ·)) = true := by kernel_rfl
theorem k19 : (Try.f13.resultTypes.all (fun t => Try.prog.readableRec t && decide (t < Try.prog.types.size))) = true := by kernel_rfl
theorem k20 : ((Rows.workloadShiftedRow.ifacesOut == Try.f13.resultTypes.toList.any (Try.prog.ifacesRec ·))) = true := by kernel_rfl
theorem k21 : ((Rows.workloadShiftedRow.loopsOut == Try.f13.resultTypes.toList.any (Try.prog.loopsFrom ·))) = true := by kernel_rfl
theorem k22 : ((Rows.workloadShiftedRow.plainKeys == Try.prog.plainKeys)) = true := by kernel_rfl
theorem k23 : (Rows.workloadShiftedRow.shortTexts.isNone) = true := by kernel_rfl
theorem k26 : ((Rows.workloadShiftedRow.lifted == Try.prog.liftsFinal)) = true := by rw [Facts.lifts]; kernel_rfl
theorem k27 : ((Try.prog.make == some Rows.workloadShiftedRow.make)) = true := by rw [Facts.made]; kernel_rfl
theorem k28 : ((Rows.workloadShiftedRow.kinds == (if Rows.workloadShiftedRow.domain.isEmpty then [] else Try.f13.params.toList.map fun t => match Try.prog.underlying t with | some (.int k) => some k | _ => none))) = true := by kernel_rfl
theorem k29 : ((Rows.workloadShiftedRow.pinned == Rows.workloadShiftedRow.pinnedBy)) = true := by kernel_rfl
theorem k30 : ((Rows.workloadShiftedRow.veiled == (Try.f13.params.toList ++ Rows.workloadShiftedSpec.plain.varTypes Try.prog ++ Try.f13.resultTypes.toList).any (Try.prog.veiledRec ·))) = true := by kernel_rfl
theorem k31 : (Rows.workloadShiftedRow.veiledFits Try.prog Try.f13.params.toList (Try.f13.params.toList ++ Rows.workloadShiftedSpec.plain.varTypes Try.prog ++ Try.f13.resultTypes.toList)) = true := by kernel_rfl
theorem joined : joinedFacts Try.prog 13 Try.f13 Rows.workloadShiftedSpec Rows.workloadShiftedRow = true := (Facts.and2 (Facts.and2 (Facts.and2 (Facts.and2 (Facts.and2 (Facts.and2 (Facts.and2 (Facts.and2 (Facts.and2 (Facts.and2 (Facts.and2 (Facts.and2 (Facts.and2 (Facts.and2 (Facts.and2 (Facts.and2 (Facts.and2 (Facts.and2 (Facts.and2 (Facts.and2 (Facts.and2 (Facts.and2 (Facts.and2 (Facts.and2 (Facts.and2 (Facts.and2 (Facts.and2 (Facts.and2 (Facts.and2 (Facts.and2 (Facts.and2 k0 Facts.laid) Facts.mapsR) k3) k4) k5) Facts.st) k7) Facts.stk) k9) k10) k11) k12) k13) k14) k15) k16) k17) k18) k19) k20) k21) k22) k23) Facts.heard) Facts.enter) k26) k27) k28) k29) k30) k31)
theorem named : Try.prog.funcNamed Rows.workloadShiftedRow.func = some 13 := by kernel_rfl
theorem inst : Func.isInstance Try.prog Try.f13 Rows.workloadShiftedRow.origin Rows.workloadShiftedRow.targs := of_decide_eq_true (by kernel_rfl)
theorem wrap : Func.isWrapper Try.prog Try.f13 Rows.workloadShiftedRow.wrapper Rows.workloadShiftedRow.mainSum := by unfold Func.isWrapper; first | (rw [if_pos (by decide +kernel)]; kernel_rfl) | (rw [if_neg (by decide +kernel)]; exact ⟨rfl, rfl⟩)
theorem over : Rows.workloadShiftedRow.holds Try.pinned (OpenSpec.ofChange Rows.workloadShiftedSpec) :=
  OpenClaim.holds_of_wide 13 Try.f13 rfl rfl rfl rfl rfl rfl rfl ⟨rfl, rfl, rfl, rfl, rfl⟩ rfl rfl rfl rfl rfl named Try.func13 joined inst wrap
    (fun os started H enc _ => lifted os started H enc)
theorem proved : Rows.WorkloadShiftedSaid :=
  over
#print axioms proved
end Go.Proofs.Ytmihhkcbbdpnaaa.workloadShifted
