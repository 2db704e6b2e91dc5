/- For every input, PqmodelAccepts returns true, and what its arguments read is what they read before. No condition. -/
import Derived.Test.YtmihhkcbbdpnaaaFacts
import Derived.Test.YtmihhkcbbdpnaaaF19
namespace Go.Proofs.Ytmihhkcbbdpnaaa.pqmodelAccepts
open Abs
open Go.ChangeShapes Go.WideShapes Go.ChangeAt Go.RowKit
set_option linter.unusedVariables false

theorem own : ownKnob Try.prog.godebug = none := by kernel_rfl
set_option maxRecDepth 100000
theorem lifted (os : Os) (started : os.Started) (H : Type) (enc : TypeId × Value → H) :
    ReturnsInHanded {} Try.checked os 8 .any (Rows.pqmodelAcceptsSpec.pre6 enc Try.prog Try.f8 Rows.pqmodelAcceptsRow.domain false) (Rows.pqmodelAcceptsSpec.post enc Try.prog Try.f8 false true false false) := by
  refine returnsInHanded_of_change (C := Try.checked) own started (by kernel_rfl) Try.func8
    (ChangeSpec.witness6 (enc := enc) (C := Try.checked) false ⟨#[], #[.int .u8 0, .slice none 0 0, .agg #[.int .i64 0, .int .i64 0, .int .i64 0, .int .i64 0, .int .i64 0, .int .i64 0], .agg #[.int .i64 0, .int .i64 0]], []⟩ 8 (by kernel_rfl) (by kernel_rfl) (by kernel_rfl) (by kernel_rfl)) ?_
  intro W base args ds gs before hval hW _ _
  exact rowCalls tab_ok 6 (congrArg Array.toList Try.params8) (by kernel_rfl) (by kernel_rfl) rfl (fun ds hds => by
    have hds : ds.length = 4 := hds
    match ds, hds with
    | [_, _, _, _], _ => rfl) rfl Try.underlying4 specAccepts W base args ds gs before hval hW
theorem k0 : (Rows.pqmodelAcceptsRow.wf (OpenSpec.ofChange Rows.pqmodelAcceptsSpec)) = true := by kernel_rfl
theorem k3 : (Try.f8.params.all (Try.prog.readableRec ·)) = true := by kernel_rfl
theorem k4 : (namedTie Try.prog Rows.pqmodelAcceptsRow.named Rows.pqmodelAcceptsSpec.vars) = true := by kernel_rfl
theorem k5 : ((Rows.pqmodelAcceptsRow.stops == [])) = true := by kernel_rfl
theorem k7 : ((Rows.pqmodelAcceptsRow.knobs == [])) = true := by kernel_rfl
theorem k9 : ((Rows.pqmodelAcceptsRow.inPlace == Try.prog.inPlace 8)) = true := by kernel_rfl
theorem k10 : ((Rows.pqmodelAcceptsRow.unfollowed == Try.prog.unfollowed 8)) = true := by kernel_rfl
theorem k11 : ((Rows.pqmodelAcceptsRow.recurses == Try.prog.recurses 8)) = true := by kernel_rfl
theorem k12 : ((Rows.pqmodelAcceptsRow.named == Try.prog.varsNamed 8)) = true := by kernel_rfl
theorem k13 : ((Rows.pqmodelAcceptsRow.maps == (Try.f8.params.toList ++ Rows.pqmodelAcceptsSpec.plain.varTypes Try.prog).any (Try.prog.mapsRec ·))) = true := by kernel_rfl
theorem k14 : ((Rows.pqmodelAcceptsRow.ifaces == (Try.f8.params.toList ++ Rows.pqmodelAcceptsSpec.plain.varTypes Try.prog).any (Try.prog.ifacesRec ·))) = true := by kernel_rfl
theorem k15 : ((Rows.pqmodelAcceptsRow.mapsOut == Try.prog.mapsAmong Try.f8.resultTypes.toList)) = true := by kernel_rfl
theorem k16 : ((Rows.pqmodelAcceptsRow.loops == (Try.f8.params.toList ++ Rows.pqmodelAcceptsSpec.plain.varTypes Try.prog).any (Try.prog.loopsFrom ·))) = true := by kernel_rfl
theorem k17 : ((Rows.pqmodelAcceptsRow.wideKeys == (Try.f8.params.toList ++ Rows.pqmodelAcceptsSpec.plain.varTypes Try.prog ++ Try.f8.resultTypes.toList).any (Try.prog.wideKeysFrom ·))) = true := by kernel_rfl
theorem k18 : (Rows.pqmodelAcceptsSpec.vars.all (Try.prog.varReadable ·)) = true := by kernel_rfl
theorem k19 : (Try.f8.resultTypes.all (fun t => Try.prog.readableRec t && decide (t < Try.prog.types.size))) = true := by kernel_rfl
theorem k20 : ((Rows.pqmodelAcceptsRow.ifacesOut == Try.f8.resultTypes.toList.any (Try.prog.ifacesRec ·))) = true := by kernel_rfl
theorem k21 : ((Rows.pqmodelAcceptsRow.loopsOut == Try.f8.resultTypes.toList.any (Try.prog.loopsFrom ·))) = true := by kernel_rfl
theorem k22 : ((Rows.pqmodelAcceptsRow.plainKeys == Try.prog.plainKeys)) = true := by kernel_rfl
theorem k23 : (Rows.pqmodelAcceptsRow.shortTexts.isNone) = true := by kernel_rfl
theorem k26 : ((Rows.pqmodelAcceptsRow.lifted == Try.prog.liftsFinal)) = true := by rw [Facts.lifts]; kernel_rfl
theorem k27 : ((Try.prog.make == some Rows.pqmodelAcceptsRow.make)) = true := by rw [Facts.made]; kernel_rfl
theorem k28 : ((Rows.pqmodelAcceptsRow.kinds == (if Rows.pqmodelAcceptsRow.domain.isEmpty then [] else Try.f8.params.toList.map fun t => match Try.prog.underlying t with | some (.int k) => some k | _ => none))) = true := by kernel_rfl
theorem k29 : ((Rows.pqmodelAcceptsRow.pinned == Rows.pqmodelAcceptsRow.pinnedBy)) = true := by kernel_rfl
theorem k30 : ((Rows.pqmodelAcceptsRow.veiled == (Try.f8.params.toList ++ Rows.pqmodelAcceptsSpec.plain.varTypes Try.prog ++ Try.f8.resultTypes.toList).any (Try.prog.veiledRec ·))) = true := by kernel_rfl
theorem k31 : (Rows.pqmodelAcceptsRow.veiledFits Try.prog Try.f8.params.toList (Try.f8.params.toList ++ Rows.pqmodelAcceptsSpec.plain.varTypes Try.prog ++ Try.f8.resultTypes.toList)) = true := by kernel_rfl
theorem joined : joinedFacts Try.prog 8 Try.f8 Rows.pqmodelAcceptsSpec Rows.pqmodelAcceptsRow = true := (Facts.and2 (Facts.and2 (Facts.and2 (Facts.and2 (Facts.and2 (Facts.and2 (Facts.and2 (Facts.and2 (Facts.and2 (Facts.and2 (Facts.and2 (Facts.and2 (Facts.and2 (Facts.and2 (Facts.and2 (Facts.and2 (Facts.and2 (Facts.and2 (Facts.and2 (Facts.and2 (Facts.and2 (Facts.and2 (Facts.and2 (Facts.and2 (Facts.and2 (Facts.and2 (Facts.and2 (Facts.and2 (Facts.and2 (Facts.and2 (Facts.and2 k0 Facts.laid) Facts.mapsR) k3) k4) k5) Facts.st) k7) Facts.stk) k9) k10) k11) k12) k13) k14) k15) k16) k17) k18) k19) k20) k21) k22) k23) Facts.heard) Facts.enter) k26) k27) k28) k29) k30) k31)
theorem named : Try.prog.funcNamed Rows.pqmodelAcceptsRow.func = some 8 := by kernel_rfl
theorem inst : Func.isInstance Try.prog Try.f8 Rows.pqmodelAcceptsRow.origin Rows.pqmodelAcceptsRow.targs := of_decide_eq_true (by kernel_rfl)
theorem wrap : Func.isWrapper Try.prog Try.f8 Rows.pqmodelAcceptsRow.wrapper Rows.pqmodelAcceptsRow.mainSum := by unfold Func.isWrapper; first | (rw [if_pos (by decide +kernel)]; kernel_rfl) | (rw [if_neg (by decide +kernel)]; exact ⟨rfl, rfl⟩)
theorem over : Rows.pqmodelAcceptsRow.holds Try.pinned (OpenSpec.ofChange Rows.pqmodelAcceptsSpec) :=
  OpenClaim.holds_of_wide 8 Try.f8 rfl rfl rfl rfl rfl rfl rfl ⟨rfl, rfl, rfl, rfl, rfl⟩ rfl rfl rfl rfl rfl named Try.func8 joined inst wrap
    (fun os started H enc _ => lifted os started H enc)
theorem proved : Rows.PqmodelAcceptsSaid :=
  over
#print axioms proved
end Go.Proofs.Ytmihhkcbbdpnaaa.pqmodelAccepts
