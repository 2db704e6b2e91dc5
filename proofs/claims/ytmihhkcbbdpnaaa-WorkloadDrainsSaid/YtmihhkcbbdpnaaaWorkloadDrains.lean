/- For every input, WorkloadDrains returns true, and what its arguments read is what they read before. No condition. -/
import Derived.Test.YtmihhkcbbdpnaaaFacts
import Derived.Test.YtmihhkcbbdpnaaaG52
namespace Go.Proofs.Ytmihhkcbbdpnaaa.workloadDrains
open Abs
open Go.ChangeShapes Go.WideShapes Go.ChangeAt Go.RowKit
set_option linter.unusedVariables false

theorem own : ownKnob Try.prog.godebug = none := by kernel_rfl
set_option maxRecDepth 100000
theorem lifted (os : Os) (started : os.Started) (H : Type) (enc : TypeId × Value → H) :
    ReturnsInHanded {} Try.checked os 12 .any (Rows.workloadDrainsSpec.pre6 enc Try.prog Try.f12 Rows.workloadDrainsRow.domain false) (Rows.workloadDrainsSpec.post enc Try.prog Try.f12 false true false false) := by
  refine returnsInHanded_of_change (C := Try.checked) own started (by kernel_rfl) Try.func12
    (ChangeSpec.witness6 (enc := enc) (C := Try.checked) false ⟨#[], #[.slice none 0 0], []⟩ 8 (by kernel_rfl) (by kernel_rfl) (by kernel_rfl) (by kernel_rfl)) ?_
  intro W base args ds gs before hval hW _ _
  exact rowCalls tab_ok 5 (congrArg Array.toList Try.params12) (by kernel_rfl) (by kernel_rfl) rfl (fun ds hds => by
    have hds : ds.length = 1 := hds
    match ds, hds with
    | [_], _ => rfl) rfl Try.underlying4 specDrains W base args ds gs before hval hW
theorem k0 : (Rows.workloadDrainsRow.wf (OpenSpec.ofChange Rows.workloadDrainsSpec)) = true := by kernel_rfl
theorem k3 : (Try.f12.params.all (Try.prog.readableRec ·)) = true := by kernel_rfl
theorem k4 : (namedTie Try.prog Rows.workloadDrainsRow.named Rows.workloadDrainsSpec.vars) = true := by kernel_rfl
theorem k5 : ((Rows.workloadDrainsRow.stops == [])) = true := by kernel_rfl
theorem k7 : ((Rows.workloadDrainsRow.knobs == [])) = true := by kernel_rfl
theorem k9 : ((Rows.workloadDrainsRow.inPlace == Try.prog.inPlace 12)) = true := by kernel_rfl
theorem k10 : ((Rows.workloadDrainsRow.unfollowed == Try.prog.unfollowed 12)) = true := by kernel_rfl
theorem k11 : ((Rows.workloadDrainsRow.recurses == Try.prog.recurses 12)) = true := by kernel_rfl
theorem k12 : ((Rows.workloadDrainsRow.named == Try.prog.varsNamed 12)) = true := by kernel_rfl
theorem k13 : ((Rows.workloadDrainsRow.maps == (Try.f12.params.toList ++ Rows.workloadDrainsSpec.plain.varTypes Try.prog).any (Try.prog.mapsRec ·))) = true := by kernel_rfl
theorem k14 : ((Rows.workloadDrainsRow.ifaces == (Try.f12.params.toList ++ Rows.workloadDrainsSpec.plain.varTypes Try.prog).any (Try.prog.ifacesRec ·))) = true := by kernel_rfl
theorem k15 : ((Rows.workloadDrainsRow.mapsOut == Try.prog.mapsAmong Try.f12.resultTypes.toList)) = true := by kernel_rfl
theorem k16 : ((Rows.workloadDrainsRow.loops == (Try.f12.params.toList ++ Rows.workloadDrainsSpec.plain.varTypes Try.prog).any (Try.prog.loopsFrom ·))) = true := by kernel_rfl
theorem k17 : ((Rows.workloadDrainsRow.wideKeys == (Try.f12.params.toList ++ Rows.workloadDrainsSpec.plain.varTypes Try.prog ++ Try.f12.resultTypes.toList).any (Try.prog.wideKeysFrom ·))) = true := by kernel_rfl
theorem k18 : (Rows.workloadDrainsSpec.vars.all (Try.prog.varReadable ·)) = true := by kernel_rfl
theorem k19 : (Try.f12.resultTypes.all (fun t => Try.prog.readableRec t && decide (t < Try.prog.types.size))) = true := by kernel_rfl
theorem k20 : ((Rows.workloadDrainsRow.ifacesOut == Try.f12.resultTypes.toList.any (Try.prog.ifacesRec ·))) = true := by kernel_rfl
theorem k21 : ((Rows.workloadDrainsRow.loopsOut == Try.f12.resultTypes.toList.any (Try.prog.loopsFrom ·))) = true := by kernel_rfl
theorem k22 : ((Rows.workloadDrainsRow.plainKeys == Try.prog.plainKeys)) = true := by kernel_rfl
theorem k23 : (Rows.workloadDrainsRow.shortTexts.isNone) = true := by kernel_rfl
theorem k26 : ((Rows.workloadDrainsRow.lifted == Try.prog.liftsFinal)) = true := by rw [Facts.lifts]; kernel_rfl
theorem k27 : ((Try.prog.make == some Rows.workloadDrainsRow.make)) = true := by rw [Facts.made]; kernel_rfl
theorem k28 : ((Rows.workloadDrainsRow.kinds == (if Rows.workloadDrainsRow.domain.isEmpty then [] else Try.f12.params.toList.map fun t => match Try.prog.underlying t with | some (.int k) => some k | _ => none))) = true := by kernel_rfl
theorem k29 : ((Rows.workloadDrainsRow.pinned == Rows.workloadDrainsRow.pinnedBy)) = true := by kernel_rfl
theorem k30 : ((Rows.workloadDrainsRow.veiled == (Try.f12.params.toList ++ Rows.workloadDrainsSpec.plain.varTypes Try.prog ++ Try.f12.resultTypes.toList).any (Try.prog.veiledRec ·))) = true := by kernel_rfl
theorem k31 : (Rows.workloadDrainsRow.veiledFits Try.prog Try.f12.params.toList (Try.f12.params.toList ++ Rows.workloadDrainsSpec.plain.varTypes Try.prog ++ Try.f12.resultTypes.toList)) = true := by kernel_rfl
theorem joined : joinedFacts Try.prog 12 Try.f12 Rows.workloadDrainsSpec Rows.workloadDrainsRow = true := (Facts.and2 (Facts.and2 (Facts.and2 (Facts.and2 (Facts.and2 (Facts.and2 (Facts.and2 (Facts.and2 (Facts.and2 (Facts.and2 (Facts.and2 (Facts.and2 (Facts.and2 (Facts.and2 (Facts.and2 (Facts.and2 (Facts.and2 (Facts.and2 (Facts.and2 (Facts.and2 (Facts.and2 (Facts.and2 (Facts.and2 (Facts.and2 (Facts.and2 (Facts.and2 (Facts.and2 (Facts.and2 (Facts.and2 (Facts.and2 (Facts.and2 k0 Facts.laid) Facts.mapsR) k3) k4) k5) Facts.st) k7) Facts.stk) k9) k10) k11) k12) k13) k14) k15) k16) k17) k18) k19) k20) k21) k22) k23) Facts.heard) Facts.enter) k26) k27) k28) k29) k30) k31)
theorem named : Try.prog.funcNamed Rows.workloadDrainsRow.func = some 12 := by kernel_rfl
theorem inst : Func.isInstance Try.prog Try.f12 Rows.workloadDrainsRow.origin Rows.workloadDrainsRow.targs := of_decide_eq_true (by kernel_rfl)
theorem wrap : Func.isWrapper Try.prog Try.f12 Rows.workloadDrainsRow.wrapper Rows.workloadDrainsRow.mainSum := by unfold Func.isWrapper; first | (rw [if_pos (by decide +kernel)]; kernel_rfl) | (rw [if_neg (by decide +kernel)]; exact ⟨rfl, rfl⟩)
theorem over : Rows.workloadDrainsRow.holds Try.pinned (OpenSpec.ofChange Rows.workloadDrainsSpec) :=
  OpenClaim.holds_of_wide 12 Try.f12 rfl rfl rfl rfl rfl rfl rfl ⟨rfl, rfl, rfl, rfl, rfl⟩ rfl rfl rfl rfl rfl named Try.func12 joined inst wrap
    (fun os started H enc _ => lifted os started H enc)
theorem proved : Rows.WorkloadDrainsSaid :=
  over
#print axioms proved
end Go.Proofs.Ytmihhkcbbdpnaaa.workloadDrains
