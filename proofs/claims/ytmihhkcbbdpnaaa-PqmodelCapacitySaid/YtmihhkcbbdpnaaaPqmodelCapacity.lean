/- For every input, PqmodelCapacity returns true, and what its arguments read is what they read before. No condition. -/
import Derived.Test.YtmihhkcbbdpnaaaFacts
import Derived.Test.YtmihhkcbbdpnaaaF19
namespace Go.Proofs.Ytmihhkcbbdpnaaa.pqmodelCapacity
open Abs
open Go.ChangeShapes Go.WideShapes Go.ChangeAt Go.RowKit
set_option linter.unusedVariables false

theorem own : ownKnob Try.prog.godebug = none := by kernel_rfl
set_option maxRecDepth 100000
theorem lifted (os : Os) (started : os.Started) (H : Type) (enc : TypeId × Value → H) :
    ReturnsInHanded {} Try.checked os 7 .any (Rows.pqmodelCapacitySpec.pre6 enc Try.prog Try.f7 Rows.pqmodelCapacityRow.domain false) (Rows.pqmodelCapacitySpec.post enc Try.prog Try.f7 false true false false) := by
  refine returnsInHanded_of_change (C := Try.checked) own started (by kernel_rfl) Try.func7
    (ChangeSpec.witness6 (enc := enc) (C := Try.checked) false ⟨#[], #[.int .u8 0, .slice none 0 0, .int .u32 0, .int .i64 0, .int .i64 0], []⟩ 8 (by kernel_rfl) (by kernel_rfl) (by kernel_rfl) (by kernel_rfl)) ?_
  intro W base args ds gs before hval hW _ _
  exact rowCalls tab_ok 6 (congrArg Array.toList Try.params7) (by kernel_rfl) (by kernel_rfl) rfl (fun ds hds => by
    have hds : ds.length = 5 := hds
    match ds, hds with
    | [_, _, _, _, _], _ => rfl) rfl Try.underlying4 specCapacity W base args ds gs before hval hW
theorem k0 : (Rows.pqmodelCapacityRow.wf (OpenSpec.ofChange Rows.pqmodelCapacitySpec)) = true := by kernel_rfl
theorem k3 : (Try.f7.params.all (Try.prog.readableRec ·)) = true := by kernel_rfl
theorem k4 : (namedTie Try.prog Rows.pqmodelCapacityRow.named Rows.pqmodelCapacitySpec.vars) = true := by kernel_rfl
theorem k5 : ((Rows.pqmodelCapacityRow.stops == [])) = true := by kernel_rfl
theorem k7 : ((Rows.pqmodelCapacityRow.knobs == [])) = true := by kernel_rfl
theorem k9 : ((Rows.pqmodelCapacityRow.inPlace == Try.prog.inPlace 7)) = true := by kernel_rfl
theorem k10 : ((Rows.pqmodelCapacityRow.unfollowed == Try.prog.unfollowed 7)) = true := by kernel_rfl
theorem k11 : ((Rows.pqmodelCapacityRow.recurses == Try.prog.recurses 7)) = true := by kernel_rfl
theorem k12 : ((Rows.pqmodelCapacityRow.named == Try.prog.varsNamed 7)) = true := by kernel_rfl
theorem k13 : ((Rows.pqmodelCapacityRow.maps == (Try.f7.params.toList ++ Rows.pqmodelCapacitySpec.plain.varTypes Try.prog).any (Try.prog.mapsRec ·))) = true := by kernel_rfl
theorem k14 : ((Rows.pqmodelCapacityRow.ifaces == (Try.f7.params.toList ++ Rows.pqmodelCapacitySpec.plain.varTypes Try.prog).any (Try.prog.ifacesRec ·))) = true := by kernel_rfl
theorem k15 : ((Rows.pqmodelCapacityRow.mapsOut == Try.prog.mapsAmong Try.f7.resultTypes.toList)) = true := by kernel_rfl
theorem k16 : ((Rows.pqmodelCapacityRow.loops == (Try.f7.params.toList ++ Rows.pqmodelCapacitySpec.plain.varTypes Try.prog).any (Try.prog.loopsFrom ·))) = true := by kernel_rfl
theorem k17 : ((Rows.pqmodelCapacityRow.wideKeys == (Try.f7.params.toList ++ Rows.pqmodelCapacitySpec.plain.varTypes Try.prog ++ Try.f7.resultTypes.toList).any (Try.prog.wideKeysFrom ·))) = true := by kernel_rfl
theorem k18 : (Rows.pqmodelCapacitySpec.vars.all (Try.prog.varReadable ·)) = true := by kernel_rfl
theorem k19 : (Try.f7.resultTypes.all (fun t => Try.prog.readableRec t && decide (t < Try.prog.types.size))) = true := by kernel_rfl
theorem k20 : ((Rows.pqmodelCapacityRow.ifacesOut == Try.f7.resultTypes.toList.any (Try.prog.ifacesRec ·))) = true := by kernel_rfl
theorem k21 : ((Rows.pqmodelCapacityRow.loopsOut == Try.f7.resultTypes.toList.any (Try.prog.loopsFrom ·))) = true := by kernel_rfl
theorem k22 : ((Rows.pqmodelCapacityRow.plainKeys == Try.prog.plainKeys)) = true := by kernel_rfl
theorem k23 : (Rows.pqmodelCapacityRow.shortTexts.isNone) = true := by kernel_rfl
theorem k26 : ((Rows.pqmodelCapacityRow.lifted == Try.prog.liftsFinal)) = true := by rw [Facts.lifts]; kernel_rfl
theorem k27 : ((Try.prog.make == some Rows.pqmodelCapacityRow.make)) = true := by rw [Facts.made]; kernel_rfl
theorem k28 : ((Rows.pqmodelCapacityRow.kinds == (if Rows.pqmodelCapacityRow.domain.isEmpty then [] else Try.f7.params.toList.map fun t => match Try.prog.underlying t with | some (.int k) => some k | _ => none))) = true := by kernel_rfl
theorem k29 : ((Rows.pqmodelCapacityRow.pinned == Rows.pqmodelCapacityRow.pinnedBy)) = true := by kernel_rfl
theorem k30 : ((Rows.pqmodelCapacityRow.veiled == (Try.f7.params.toList ++ Rows.pqmodelCapacitySpec.plain.varTypes Try.prog ++ Try.f7.resultTypes.toList).any (Try.prog.veiledRec ·))) = true := by kernel_rfl
theorem k31 : (Rows.pqmodelCapacityRow.veiledFits Try.prog Try.f7.params.toList (Try.f7.params.toList ++ Rows.pqmodelCapacitySpec.plain.varTypes Try.prog ++ Try.f7.resultTypes.toList)) = true := by kernel_rfl
theorem joined : joinedFacts Try.prog 7 Try.f7 Rows.pqmodelCapacitySpec Rows.pqmodelCapacityRow = true := (Facts.and2 (Facts.and2 (Facts.and2 (Facts.and2 (Facts.and2 (Facts.and2 (Facts.and2 (Facts.and2 (Facts.and2 (Facts.and2 (Facts.and2 (Facts.and2 (Facts.and2 (Facts.and2 (Facts.and2 (Facts.and2 (Facts.and2 (Facts.and2 (Facts.and2 (Facts.and2 (Facts.and2 (Facts.and2 (Facts.and2 (Facts.and2 (Facts.and2 (Facts.and2 (Facts.and2 (Facts.and2 (Facts.and2 (Facts.and2 (Facts.and2 k0 Facts.laid) Facts.mapsR) k3) k4) k5) Facts.st) k7) Facts.stk) k9) k10) k11) k12) k13) k14) k15) k16) k17) k18) k19) k20) k21) k22) k23) Facts.heard) Facts.enter) k26) k27) k28) k29) k30) k31)
theorem named : Try.prog.funcNamed Rows.pqmodelCapacityRow.func = some 7 := by kernel_rfl
theorem inst : Func.isInstance Try.prog Try.f7 Rows.pqmodelCapacityRow.origin Rows.pqmodelCapacityRow.targs := of_decide_eq_true (by kernel_rfl)
theorem wrap : Func.isWrapper Try.prog Try.f7 Rows.pqmodelCapacityRow.wrapper Rows.pqmodelCapacityRow.mainSum := by unfold Func.isWrapper; first | (rw [if_pos (by decide +kernel)]; kernel_rfl) | (rw [if_neg (by decide +kernel)]; exact ⟨rfl, rfl⟩)
theorem over : Rows.pqmodelCapacityRow.holds Try.pinned (OpenSpec.ofChange Rows.pqmodelCapacitySpec) :=
  OpenClaim.holds_of_wide 7 Try.f7 rfl rfl rfl rfl rfl rfl rfl ⟨rfl, rfl, rfl, rfl, rfl⟩ rfl rfl rfl rfl rfl named Try.func7 joined inst wrap
    (fun os started H enc _ => lifted os started H enc)
theorem proved : Rows.PqmodelCapacitySaid :=
  over
#print axioms proved
end Go.Proofs.Ytmihhkcbbdpnaaa.pqmodelCapacity
