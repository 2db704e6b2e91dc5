/- For every input, WorkloadBounds returns true, and what its arguments read is what they read before. No condition. -/
import Derived.Test.YtmihhkcbbdpnaaaFacts
import Derived.Test.YtmihhkcbbdpnaaaK2
namespace Go.Proofs.Ytmihhkcbbdpnaaa.workloadBounds
open Abs
open Go.ChangeShapes Go.WideShapes Go.ChangeAt Go.RowKit
set_option linter.unusedVariables false

theorem own : ownKnob Try.prog.godebug = none := by kernel_rfl
set_option maxRecDepth 100000
theorem lifted (os : Os) (started : os.Started) (H : Type) (enc : TypeId × Value → H) :
    ReturnsInHanded {} Try.checked os 10 .any (Rows.workloadBoundsSpec.pre6 enc Try.prog Try.f10 Rows.workloadBoundsRow.domain false) (Rows.workloadBoundsSpec.post enc Try.prog Try.f10 false true false false) := by
  refine returnsInHanded_of_change (C := Try.checked) own started (by kernel_rfl) Try.func10
    (ChangeSpec.witness6 (enc := enc) (C := Try.checked) false ⟨#[], #[.slice none 0 0], []⟩ 8 (by kernel_rfl) (by kernel_rfl) (by kernel_rfl) (by kernel_rfl)) ?_
  intro W base args ds gs before hval hW _ _
  exact rowCalls tab_ok 5 (congrArg Array.toList Try.params10) (by kernel_rfl) (by kernel_rfl) rfl (fun ds hds => by
    have hds : ds.length = 1 := hds
    match ds, hds with
    | [_], _ => rfl) rfl Try.underlying4 specBounds W base args ds gs before hval hW
theorem k0 : (Rows.workloadBoundsRow.wf (OpenSpec.ofChange Rows.workloadBoundsSpec)) = true := by kernel_rfl
theorem k3 : (Try.f10.params.all (Try.prog.readableRec ·)) = true := by kernel_rfl
theorem k4 : (namedTie Try.prog Rows.workloadBoundsRow.named Rows.workloadBoundsSpec.vars) = true := by kernel_rfl
theorem k5 : ((Rows.workloadBoundsRow.stops == [])) = true := by kernel_rfl
theorem k7 : ((Rows.workloadBoundsRow.knobs == [])) = true := by kernel_rfl
theorem k9 : ((Rows.workloadBoundsRow.inPlace == Try.prog.inPlace 10)) = true := by kernel_rfl
theorem k10 : ((Rows.workloadBoundsRow.unfollowed == Try.prog.unfollowed 10)) = true := by kernel_rfl
theorem k11 : ((Rows.workloadBoundsRow.recurses == Try.prog.recurses 10)) = true := by kernel_rfl
theorem k12 : ((Rows.workloadBoundsRow.named == Try.prog.varsNamed 10)) = true := by kernel_rfl
theorem k13 : ((Rows.workloadBoundsRow.maps == (Try.f10.params.toList ++ Rows.workloadBoundsSpec.plain.varTypes Try.prog).any (Try.prog.mapsRec ·))) = true := by kernel_rfl
theorem k14 : ((Rows.workloadBoundsRow.ifaces == (Try.f10.params.toList ++ Rows.workloadBoundsSpec.plain.varTypes Try.prog).any (Try.prog.ifacesRec ·))) = true := by kernel_rfl
theorem k15 : ((Rows.workloadBoundsRow.mapsOut == Try.prog.mapsAmong Try.f10.resultTypes.toList)) = true := by kernel_rfl
theorem k16 : ((Rows.workloadBoundsRow.loops == (Try.f10.params.toList ++ Rows.workloadBoundsSpec.plain.varTypes Try.prog).any (Try.prog.loopsFrom ·))) = true := by kernel_rfl
theorem k17 : ((Rows.workloadBoundsRow.wideKeys == (Try.f10.params.toList ++ Rows.workloadBoundsSpec.plain.varTypes Try.prog ++ Try.f10.resultTypes.toList).any (Try.prog.wideKeysFrom ·))) = true := by kernel_rfl
theorem k18 : (Rows.workloadBoundsSpec.vars.all (Try.prog.varReadable ·)) = true := by kernel_rfl
theorem k19 : (Try.f10.resultTypes.all (fun t => Try.prog.readableRec t && decide (t < Try.prog.types.size))) = true := by kernel_rfl
theorem k20 : ((Rows.workloadBoundsRow.ifacesOut == Try.f10.resultTypes.toList.any (Try.prog.ifacesRec ·))) = true := by kernel_rfl
theorem k21 : ((Rows.workloadBoundsRow.loopsOut == Try.f10.resultTypes.toList.any (Try.prog.loopsFrom ·))) = true := by kernel_rfl
theorem k22 : ((Rows.workloadBoundsRow.plainKeys == Try.prog.plainKeys)) = true := by kernel_rfl
theorem k23 : (Rows.workloadBoundsRow.shortTexts.isNone) = true := by kernel_rfl
theorem k26 : ((Rows.workloadBoundsRow.lifted == Try.prog.liftsFinal)) = true := by rw [Facts.lifts]; kernel_rfl
theorem k27 : ((Try.prog.make == some Rows.workloadBoundsRow.make)) = true := by rw [Facts.made]; kernel_rfl
theorem k28 : ((Rows.workloadBoundsRow.kinds == (if Rows.workloadBoundsRow.domain.isEmpty then [] else Try.f10.params.toList.map fun t => match Try.prog.underlying t with | some (.int k) => some k | _ => none))) = true := by kernel_rfl
theorem k29 : ((Rows.workloadBoundsRow.pinned == Rows.workloadBoundsRow.pinnedBy)) = true := by kernel_rfl
theorem k30 : ((Rows.workloadBoundsRow.veiled == (Try.f10.params.toList ++ Rows.workloadBoundsSpec.plain.varTypes Try.prog ++ Try.f10.resultTypes.toList).any (Try.prog.veiledRec ·))) = true := by kernel_rfl
theorem k31 : (Rows.workloadBoundsRow.veiledFits Try.prog Try.f10.params.toList (Try.f10.params.toList ++ Rows.workloadBoundsSpec.plain.varTypes Try.prog ++ Try.f10.resultTypes.toList)) = true := by kernel_rfl
theorem joined : joinedFacts Try.prog 10 Try.f10 Rows.workloadBoundsSpec Rows.workloadBoundsRow = true := (Facts.and2 (Facts.and2 (Facts.and2 (Facts.and2 (Facts.and2 (Facts.and2 (Facts.and2 (Facts.and2 (Facts.and2 (Facts.and2 (Facts.and2 (Facts.and2 (Facts.and2 (Facts.and2 (Facts.and2 (Facts.and2 (Facts.and2 (Facts.and2 (Facts.and2 (Facts.and2 (Facts.and2 (Facts.and2 (Facts.and2 (Facts.and2 (Facts.and2 (Facts.and2 (Facts.and2 (Facts.and2 (Facts.and2 (Facts.and2 (Facts.and2 k0 Facts.laid) Facts.mapsR) k3) k4) k5) Facts.st) k7) Facts.stk) k9) k10) k11) k12) k13) k14) k15) k16) k17) k18) k19) k20) k21) k22) k23) Facts.heard) Facts.enter) k26) k27) k28) k29) k30) k31)
theorem named : Try.prog.funcNamed Rows.workloadBoundsRow.func = some 10 := by kernel_rfl
theorem inst : Func.isInstance Try.prog Try.f10 Rows.workloadBoundsRow.origin Rows.workloadBoundsRow.targs := of_decide_eq_true (by kernel_rfl)
theorem wrap : Func.isWrapper Try.prog Try.f10 Rows.workloadBoundsRow.wrapper Rows.workloadBoundsRow.mainSum := by unfold Func.isWrapper; first | (rw [if_pos (by decide +kernel)]; kernel_rfl) | (rw [if_neg (by decide +kernel)]; exact ⟨rfl, rfl⟩)
theorem over : Rows.workloadBoundsRow.holds Try.pinned (OpenSpec.ofChange Rows.workloadBoundsSpec) :=
  OpenClaim.holds_of_wide 10 Try.f10 rfl rfl rfl rfl rfl rfl rfl ⟨rfl, rfl, rfl, rfl, rfl⟩ rfl rfl rfl rfl rfl named Try.func10 joined inst wrap
    (fun os started H enc _ => lifted os started H enc)
theorem proved : Rows.WorkloadBoundsSaid :=
  over
#print axioms proved
end Go.Proofs.Ytmihhkcbbdpnaaa.workloadBounds
