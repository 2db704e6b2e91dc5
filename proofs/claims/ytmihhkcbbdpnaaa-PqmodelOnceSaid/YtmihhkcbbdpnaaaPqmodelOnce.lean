/- For every input, PqmodelOnce returns true, and what its arguments read is what they read before. No condition. -/
import Derived.Test.YtmihhkcbbdpnaaaFacts
import Derived.Test.YtmihhkcbbdpnaaaF21
namespace Go.Proofs.Ytmihhkcbbdpnaaa.pqmodelOnce
open Abs
open Go.ChangeShapes Go.WideShapes Go.ChangeAt Go.RowKit
set_option linter.unusedVariables false

theorem own : ownKnob Try.prog.godebug = none := by kernel_rfl
set_option maxRecDepth 100000
theorem lifted (os : Os) (started : os.Started) (H : Type) (enc : TypeId × Value → H) :
    ReturnsInHanded {} Try.checked os 6 .any (Rows.pqmodelOnceSpec.pre6 enc Try.prog Try.f6 Rows.pqmodelOnceRow.domain false) (Rows.pqmodelOnceSpec.post enc Try.prog Try.f6 false true false false) := by
  refine returnsInHanded_of_change (C := Try.checked) own started (by kernel_rfl) Try.func6
    (ChangeSpec.witness6 (enc := enc) (C := Try.checked) false ⟨#[], #[.int .u8 0, .slice none 0 0, .agg #[.int .i64 0, .int .i64 0, .int .i64 0, .int .i64 0, .int .i64 0, .int .i64 0], .slice none 0 0], []⟩ 8 (by kernel_rfl) (by kernel_rfl) (by kernel_rfl) (by kernel_rfl)) ?_
  intro W base args ds gs before hval hW _ _
  exact rowCalls tab_ok 6 (congrArg Array.toList Try.params6) (by kernel_rfl) (by kernel_rfl) rfl (fun ds hds => by
    have hds : ds.length = 4 := hds
    match ds, hds with
    | [_, _, _, _], _ => rfl) rfl Try.underlying4 specOnce W base args ds gs before hval hW
theorem k0 : (Rows.pqmodelOnceRow.wf (OpenSpec.ofChange Rows.pqmodelOnceSpec)) = true := by kernel_rfl
theorem k3 : (Try.f6.params.all (Try.prog.readableRec ·)) = true := by kernel_rfl
theorem k4 : (namedTie Try.prog Rows.pqmodelOnceRow.named Rows.pqmodelOnceSpec.vars) = true := by kernel_rfl
theorem k5 : ((Rows.pqmodelOnceRow.stops == [])) = true := by kernel_rfl
theorem k7 : ((Rows.pqmodelOnceRow.knobs == [])) = true := by kernel_rfl
theorem k9 : ((Rows.pqmodelOnceRow.inPlace == Try.prog.inPlace 6)) = true := by kernel_rfl
theorem k10 : ((Rows.pqmodelOnceRow.unfollowed == Try.prog.unfollowed 6)) = true := by kernel_rfl
theorem k11 : ((Rows.pqmodelOnceRow.recurses == Try.prog.recurses 6)) = true := by kernel_rfl
theorem k12 : ((Rows.pqmodelOnceRow.named == Try.prog.varsNamed 6)) = true := by kernel_rfl
theorem k13 : ((Rows.pqmodelOnceRow.maps == (Try.f6.params.toList ++ Rows.pqmodelOnceSpec.plain.varTypes Try.prog).any (Try.prog.mapsRec ·))) = true := by kernel_rfl
theorem k14 : ((Rows.pqmodelOnceRow.ifaces == (Try.f6.params.toList ++ Rows.pqmodelOnceSpec.plain.varTypes Try.prog).any (Try.prog.ifacesRec ·))) = true := by kernel_rfl
theorem k15 : ((Rows.pqmodelOnceRow.mapsOut == Try.prog.mapsAmong Try.f6.resultTypes.toList)) = true := by kernel_rfl
theorem k16 : ((Rows.pqmodelOnceRow.loops == (Try.f6.params.toList ++ Rows.pqmodelOnceSpec.plain.varTypes Try.prog).any (Try.prog.loopsFrom ·))) = true := by kernel_rfl
theorem k17 : ((Rows.pqmodelOnceRow.wideKeys == (Try.f6.params.toList ++ Rows.pqmodelOnceSpec.plain.varTypes Try.prog ++ Try.f6.resultTypes.toList).any (Try.prog.wideKeysFrom ·))) = true := by kernel_rfl
theorem k18 : (Rows.pqmodelOnceSpec.vars.all (Try.prog.varReadable ·)) = true := by kernel_rfl
theorem k19 : (Try.f6.resultTypes.all (fun t => Try.prog.readableRec t && decide (t < Try.prog.types.size))) = true := by kernel_rfl
theorem k20 : ((Rows.pqmodelOnceRow.ifacesOut == Try.f6.resultTypes.toList.any (Try.prog.ifacesRec ·))) = true := by kernel_rfl
theorem k21 : ((Rows.pqmodelOnceRow.loopsOut == Try.f6.resultTypes.toList.any (Try.prog.loopsFrom ·))) = true := by kernel_rfl
theorem k22 : ((Rows.pqmodelOnceRow.plainKeys == Try.prog.plainKeys)) = true := by kernel_rfl
theorem k23 : (Rows.pqmodelOnceRow.shortTexts.isNone) = true := by kernel_rfl
theorem k26 : ((Rows.pqmodelOnceRow.lifted == Try.prog.liftsFinal)) = true := by rw [Facts.lifts]; kernel_rfl
theorem k27 : ((Try.prog.make == some Rows.pqmodelOnceRow.make)) = true := by rw [Facts.made]; kernel_rfl
theorem k28 : ((Rows.pqmodelOnceRow.kinds == (if Rows.pqmodelOnceRow.domain.isEmpty then [] else Try.f6.params.toList.map fun t => match Try.prog.underlying t with | some (.int k) => some k | _ => none))) = true := by kernel_rfl
theorem k29 : ((Rows.pqmodelOnceRow.pinned == Rows.pqmodelOnceRow.pinnedBy)) = true := by kernel_rfl
theorem k30 : ((Rows.pqmodelOnceRow.veiled == (Try.f6.params.toList ++ Rows.pqmodelOnceSpec.plain.varTypes Try.prog ++ Try.f6.resultTypes.toList).any (Try.prog.veiledRec ·))) = true := by kernel_rfl
theorem k31 : (Rows.pqmodelOnceRow.veiledFits Try.prog Try.f6.params.toList (Try.f6.params.toList ++ Rows.pqmodelOnceSpec.plain.varTypes Try.prog ++ Try.f6.resultTypes.toList)) = true := by kernel_rfl
theorem joined : joinedFacts Try.prog 6 Try.f6 Rows.pqmodelOnceSpec Rows.pqmodelOnceRow = true := (Facts.and2 (Facts.and2 (Facts.and2 (Facts.and2 (Facts.and2 (Facts.and2 (Facts.and2 (Facts.and2 (Facts.and2 (Facts.and2 (Facts.and2 (Facts.and2 (Facts.and2 (Facts.and2 (Facts.and2 (Facts.and2 (Facts.and2 (Facts.and2 (Facts.and2 (Facts.and2 (Facts.and2 (Facts.and2 (Facts.and2 (Facts.and2 (Facts.and2 (Facts.and2 (Facts.and2 (Facts.and2 (Facts.and2 (Facts.and2 (Facts.and2 k0 Facts.laid) Facts.mapsR) k3) k4) k5) Facts.st) k7) Facts.stk) k9) k10) k11) k12) k13) k14) k15) k16) k17) k18) k19) k20) k21) k22) k23) Facts.heard) Facts.enter) k26) k27) k28) k29) k30) k31)
theorem named : Try.prog.funcNamed Rows.pqmodelOnceRow.func = some 6 := by kernel_rfl
theorem inst : Func.isInstance Try.prog Try.f6 Rows.pqmodelOnceRow.origin Rows.pqmodelOnceRow.targs := of_decide_eq_true (by kernel_rfl)
theorem wrap : Func.isWrapper Try.prog Try.f6 Rows.pqmodelOnceRow.wrapper Rows.pqmodelOnceRow.mainSum := by unfold Func.isWrapper; first | (rw [if_pos (by decide +kernel)]; kernel_rfl) | (rw [if_neg (by decide +kernel)]; exact ⟨rfl, rfl⟩)
theorem over : Rows.pqmodelOnceRow.holds Try.pinned (OpenSpec.ofChange Rows.pqmodelOnceSpec) :=
  OpenClaim.holds_of_wide 6 Try.f6 rfl rfl rfl rfl rfl rfl rfl ⟨rfl, rfl, rfl, rfl, rfl⟩ rfl rfl rfl rfl rfl named Try.func6 joined inst wrap
    (fun os started H enc _ => lifted os started H enc)
theorem proved : Rows.PqmodelOnceSaid :=
  over
#print axioms proved
end Go.Proofs.Ytmihhkcbbdpnaaa.pqmodelOnce
