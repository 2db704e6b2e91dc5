/- For every input, WorkloadEquivalent returns true, and what its arguments read is what they read before. No condition. -/
import Derived.Test.YtmihhkcbbdpnaaaFacts
import Derived.Test.YtmihhkcbbdpnaaaK2
namespace Go.Proofs.Ytmihhkcbbdpnaaa.workloadEquivalent
open Abs
open Go.ChangeShapes Go.WideShapes Go.ChangeAt Go.RowKit
set_option linter.unusedVariables false

theorem own : ownKnob Try.prog.godebug = none := by kernel_rfl
set_option maxRecDepth 100000
theorem lifted (os : Os) (started : os.Started) (H : Type) (enc : TypeId × Value → H) :
    ReturnsInHanded {} Try.checked os 11 .any (Rows.workloadEquivalentSpec.pre6 enc Try.prog Try.f11 Rows.workloadEquivalentRow.domain false) (Rows.workloadEquivalentSpec.post enc Try.prog Try.f11 false true false false) := by
  refine returnsInHanded_of_change (C := Try.checked) own started (by kernel_rfl) Try.func11
    (ChangeSpec.witness6 (enc := enc) (C := Try.checked) false ⟨#[], #[.slice none 0 0], []⟩ 8 (by kernel_rfl) (by kernel_rfl) (by kernel_rfl) (by kernel_rfl)) ?_
  intro W base args ds gs before hval hW _ _
  exact rowCalls tab_ok 5 (congrArg Array.toList Try.params11) (by kernel_rfl) (by kernel_rfl) rfl (fun ds hds => by
    have hds : ds.length = 1 := hds
    match ds, hds with
    | [_], _ => rfl) rfl Try.underlying4 specEquivalent W base args ds gs before hval hW
theorem k0 : (Rows.workloadEquivalentRow.wf (OpenSpec.ofChange Rows.workloadEquivalentSpec)) = true := by kernel_rfl
theorem k3 : (Try.f11.params.all (Try.prog.readableRec ·)) = true := by kernel_rfl
theorem k4 : (namedTie Try.prog Rows.workloadEquivalentRow.named Rows.workloadEquivalentSpec.vars) = true := by kernel_rfl
theorem k5 : ((Rows.workloadEquivalentRow.stops == [])) = true := by kernel_rfl
theorem k7 : ((Rows.workloadEquivalentRow.knobs == [])) = true := by kernel_rfl
theorem k9 : ((Rows.workloadEquivalentRow.inPlace == Try.prog.inPlace 11)) = true := by kernel_rfl
theorem k10 : ((Rows.workloadEquivalentRow.unfollowed == Try.prog.unfollowed 11)) = true := by kernel_rfl
theorem k11 : ((Rows.workloadEquivalentRow.recurses == Try.prog.recurses 11)) = true := by kernel_rfl
theorem k12 : ((Rows.workloadEquivalentRow.named == Try.prog.varsNamed 11)) = true := by kernel_rfl
theorem k13 : ((Rows.workloadEquivalentRow.maps == (Try.f11.params.toList ++ Rows.workloadEquivalentSpec.plain.varTypes Try.prog).any (Try.prog.mapsRec ·))) = true := by kernel_rfl
theorem k14 : ((Rows.workloadEquivalentRow.ifaces == (Try.f11.params.toList ++ Rows.workloadEquivalentSpec.plain.varTypes Try.prog).any (Try.prog.ifacesRec ·))) = true := by kernel_rfl
theorem k15 : ((Rows.workloadEquivalentRow.mapsOut == Try.prog.mapsAmong Try.f11.resultTypes.toList)) = true := by kernel_rfl
theorem k16 : ((Rows.workloadEquivalentRow.loops == (Try.f11.params.toList ++ Rows.workloadEquivalentSpec.plain.varTypes Try.prog).any (Try.prog.loopsFrom ·))) = true := by kernel_rfl
theorem k17 : ((Rows.workloadEquivalentRow.wideKeys == (Try.f11.params.toList ++ Rows.workloadEquivalentSpec.plain.varTypes Try.prog ++ Try.f11.resultTypes.toList).any (Try.prog.wideKeysFrom ·))) = true := by kernel_rfl
theorem k18 : (Rows.workloadEquivalentSpec.vars.all (Try.prog.varReadable ·)) = true := by kernel_rfl
theorem k19 : (Try.f11.resultTypes.all (fun t => Try.prog.readableRec t && decide (t < Try.prog.types.size))) = true := by kernel_rfl
theorem k20 : ((Rows.workloadEquivalentRow.ifacesOut == Try.f11.resultTypes.toList.any (Try.prog.ifacesRec ·))) = true := by kernel_rfl
theorem k21 : ((Rows.workloadEquivalentRow.loopsOut == Try.f11.resultTypes.toList.any (Try.prog.loopsFrom ·))) = true := by kernel_rfl
theorem k22 : ((Rows.workloadEquivalentRow.plainKeys == Try.prog.plainKeys)) = true := by kernel_rfl
theorem k23 : (Rows.workloadEquivalentRow.shortTexts.isNone) = true := by kernel_rfl
theorem k26 : ((Rows.workloadEquivalentRow.lifted == Try.prog.liftsFinal)) = true := by rw [Facts.lifts]; kernel_rfl
theorem k27 : ((Try.prog.make == some Rows.workloadEquivalentRow.make)) = true := by rw [Facts.made]; kernel_rfl
theorem k28 : ((Rows.workloadEquivalentRow.kinds == (if Rows.workloadEquivalentRow.domain.isEmpty then [] else Try.f11.params.toList.map fun t => match Try.prog.underlying t with | some (.int k) => some k | _ => none))) = true := by kernel_rfl
theorem k29 : ((Rows.workloadEquivalentRow.pinned == Rows.workloadEquivalentRow.pinnedBy)) = true := by kernel_rfl
theorem k30 : ((Rows.workloadEquivalentRow.veiled == (Try.f11.params.toList ++ Rows.workloadEquivalentSpec.plain.varTypes Try.prog ++ Try.f11.resultTypes.toList).any (Try.prog.veiledRec ·))) = true := by kernel_rfl
theorem k31 : (Rows.workloadEquivalentRow.veiledFits Try.prog Try.f11.params.toList (Try.f11.params.toList ++ Rows.workloadEquivalentSpec.plain.varTypes Try.prog ++ Try.f11.resultTypes.toList)) = true := by kernel_rfl
theorem joined : joinedFacts Try.prog 11 Try.f11 Rows.workloadEquivalentSpec Rows.workloadEquivalentRow = true := (Facts.and2 (Facts.and2 (Facts.and2 (Facts.and2 (Facts.and2 (Facts.and2 (Facts.and2 (Facts.and2 (Facts.and2 (Facts.and2 (Facts.and2 (Facts.and2 (Facts.and2 (Facts.and2 (Facts.and2 (Facts.and2 (Facts.and2 (Facts.and2 (Facts.and2 (Facts.and2 (Facts.and2 (Facts.and2 (Facts.and2 (Facts.and2 (Facts.and2 (Facts.and2 (Facts.and2 (Facts.and2 (Facts.and2 (Facts.and2 (Facts.and2 k0 Facts.laid) Facts.mapsR) k3) k4) k5) Facts.st) k7) Facts.stk) k9) k10) k11) k12) k13) k14) k15) k16) k17) k18) k19) k20) k21) k22) k23) Facts.heard) Facts.enter) k26) k27) k28) k29) k30) k31)
theorem named : Try.prog.funcNamed Rows.workloadEquivalentRow.func = some 11 := by kernel_rfl
theorem inst : Func.isInstance Try.prog Try.f11 Rows.workloadEquivalentRow.origin Rows.workloadEquivalentRow.targs := of_decide_eq_true (by kernel_rfl)
theorem wrap : Func.isWrapper Try.prog Try.f11 Rows.workloadEquivalentRow.wrapper Rows.workloadEquivalentRow.mainSum := by unfold Func.isWrapper; first | (rw [if_pos (by decide +kernel)]; kernel_rfl) | (rw [if_neg (by decide +kernel)]; exact ⟨rfl, rfl⟩)
theorem over : Rows.workloadEquivalentRow.holds Try.pinned (OpenSpec.ofChange Rows.workloadEquivalentSpec) :=
  OpenClaim.holds_of_wide 11 Try.f11 rfl rfl rfl rfl rfl rfl rfl ⟨rfl, rfl, rfl, rfl, rfl⟩ rfl rfl rfl rfl rfl named Try.func11 joined inst wrap
    (fun os started H enc _ => lifted os started H enc)
theorem proved : Rows.WorkloadEquivalentSaid :=
  over
#print axioms proved
end Go.Proofs.Ytmihhkcbbdpnaaa.workloadEquivalent
