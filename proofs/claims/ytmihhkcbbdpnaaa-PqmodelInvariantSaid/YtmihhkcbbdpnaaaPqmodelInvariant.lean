/- For every input, PqmodelInvariant returns true, and what its arguments read is what they read before. No condition. -/
import Derived.Test.YtmihhkcbbdpnaaaFacts
import Derived.Test.YtmihhkcbbdpnaaaF16
namespace Go.Proofs.Ytmihhkcbbdpnaaa.pqmodelInvariant
open Abs
open Go.ChangeShapes Go.WideShapes Go.ChangeAt Go.RowKit
set_option linter.unusedVariables false

theorem own : ownKnob Try.prog.godebug = none := by kernel_rfl
set_option maxRecDepth 100000
theorem lifted (os : Os) (started : os.Started) (H : Type) (enc : TypeId × Value → H) :
    ReturnsInHanded {} Try.checked os 4 .any (Rows.pqmodelInvariantSpec.pre6 enc Try.prog Try.f4 Rows.pqmodelInvariantRow.domain false) (Rows.pqmodelInvariantSpec.post enc Try.prog Try.f4 false true false false) := by
  refine returnsInHanded_of_change (C := Try.checked) own started (by kernel_rfl) Try.func4
    (ChangeSpec.witness6 (enc := enc) (C := Try.checked) false ⟨#[], #[.int .u8 0, .slice none 0 0, .agg #[.int .i64 0, .int .i64 0, .int .i64 0, .int .i64 0, .int .i64 0, .int .i64 0]], []⟩ 8 (by kernel_rfl) (by kernel_rfl) (by kernel_rfl) (by kernel_rfl)) ?_
  intro W base args ds gs before hval hW _ _
  exact rowCalls tab_ok 6 (congrArg Array.toList Try.params4) (by kernel_rfl) (by kernel_rfl) rfl (fun ds hds => by
    have hds : ds.length = 3 := hds
    match ds, hds with
    | [_, _, _], _ => rfl) rfl Try.underlying4 specInvariant W base args ds gs before hval hW
theorem k0 : (Rows.pqmodelInvariantRow.wf (OpenSpec.ofChange Rows.pqmodelInvariantSpec)) = true := by kernel_rfl
theorem k3 : (Try.f4.params.all (Try.prog.readableRec ·)) = true := by kernel_rfl
theorem k4 : (namedTie Try.prog Rows.pqmodelInvariantRow.named Rows.pqmodelInvariantSpec.vars) = true := by kernel_rfl
theorem k5 : ((Rows.pqmodelInvariantRow.stops == [])) = true := by kernel_rfl
theorem k7 : ((Rows.pqmodelInvariantRow.knobs == [])) = true := by kernel_rfl
theorem k9 : ((Rows.pqmodelInvariantRow.inPlace == Try.prog.inPlace 4)) = true := by kernel_rfl
theorem k10 : ((Rows.pqmodelInvariantRow.unfollowed == Try.prog.unfollowed 4)) = true := by kernel_rfl
theorem k11 : ((Rows.pqmodelInvariantRow.recurses == Try.prog.recurses 4)) = true := by kernel_rfl
theorem k12 : ((Rows.pqmodelInvariantRow.named == Try.prog.varsNamed 4)) = true := by kernel_rfl
theorem k13 : ((Rows.pqmodelInvariantRow.maps == (Try.f4.params.toList ++ Rows.pqmodelInvariantSpec.plain.varTypes Try.prog).any (Try.prog.mapsRec ·))) = true := by kernel_rfl
theorem k14 : ((Rows.pqmodelInvariantRow.ifaces == (Try.f4.params.toList ++ Rows.pqmodelInvariantSpec.plain.varTypes Try.prog).any (Try.prog.ifacesRec ·))) = true := by kernel_rfl
theorem k15 : ((Rows.pqmodelInvariantRow.mapsOut == Try.prog.mapsAmong Try.f4.resultTypes.toList)) = true := by kernel_rfl
theorem k16 : ((Rows.pqmodelInvariantRow.loops == (Try.f4.params.toList ++ Rows.pqmodelInvariantSpec.plain.varTypes Try.prog).any (Try.prog.loopsFrom ·))) = true := by kernel_rfl
theorem k17 : ((Rows.pqmodelInvariantRow.wideKeys == (Try.f4.params.toList ++ Rows.pqmodelInvariantSpec.plain.varTypes Try.prog ++ Try.f4.resultTypes.toList).any (Try.prog.wideKeysFrom ·))) = true := by kernel_rfl
theorem k18 : (Rows.pqmodelInvariantSpec.vars.all (Try.prog.varReadable ·)) = true := by kernel_rfl
theorem k19 : (Try.f4.resultTypes.all (fun t => Try.prog.readableRec t && decide (t < Try.prog.types.size))) = true := by kernel_rfl
theorem k20 : ((Rows.pqmodelInvariantRow.ifacesOut == Try.f4.resultTypes.toList.any (Try.prog.ifacesRec ·))) = true := by kernel_rfl
theorem k21 : ((Rows.pqmodelInvariantRow.loopsOut == Try.f4.resultTypes.toList.any (Try.prog.loopsFrom ·))) = true := by kernel_rfl
theorem k22 : ((Rows.pqmodelInvariantRow.plainKeys == Try.prog.plainKeys)) = true := by kernel_rfl
theorem k23 : (Rows.pqmodelInvariantRow.shortTexts.isNone) = true := by kernel_rfl
theorem k26 : ((Rows.pqmodelInvariantRow.lifted == Try.prog.liftsFinal)) = true := by rw [Facts.lifts]; kernel_rfl
theorem k27 : ((Try.prog.make == some Rows.pqmodelInvariantRow.make)) = true := by rw [Facts.made]; kernel_rfl
theorem k28 : ((Rows.pqmodelInvariantRow.kinds == (if Rows.pqmodelInvariantRow.domain.isEmpty then [] else Try.f4.params.toList.map fun t => match Try.prog.underlying t with | some (.int k) => some k | _ => none))) = true := by kernel_rfl
theorem k29 : ((Rows.pqmodelInvariantRow.pinned == Rows.pqmodelInvariantRow.pinnedBy)) = true := by kernel_rfl
theorem k30 : ((Rows.pqmodelInvariantRow.veiled == (Try.f4.params.toList ++ Rows.pqmodelInvariantSpec.plain.varTypes Try.prog ++ Try.f4.resultTypes.toList).any (Try.prog.veiledRec ·))) = true := by kernel_rfl
theorem k31 : (Rows.pqmodelInvariantRow.veiledFits Try.prog Try.f4.params.toList (Try.f4.params.toList ++ Rows.pqmodelInvariantSpec.plain.varTypes Try.prog ++ Try.f4.resultTypes.toList)) = true := by kernel_rfl
theorem joined : joinedFacts Try.prog 4 Try.f4 Rows.pqmodelInvariantSpec Rows.pqmodelInvariantRow = true := (Facts.and2 (Facts.and2 (Facts.and2 (Facts.and2 (Facts.and2 (Facts.and2 (Facts.and2 (Facts.and2 (Facts.and2 (Facts.and2 (Facts.and2 (Facts.and2 (Facts.and2 (Facts.and2 (Facts.and2 (Facts.and2 (Facts.and2 (Facts.and2 (Facts.and2 (Facts.and2 (Facts.and2 (Facts.and2 (Facts.and2 (Facts.and2 (Facts.and2 (Facts.and2 (Facts.and2 (Facts.and2 (Facts.and2 (Facts.and2 (Facts.and2 k0 Facts.laid) Facts.mapsR) k3) k4) k5) Facts.st) k7) Facts.stk) k9) k10) k11) k12) k13) k14) k15) k16) k17) k18) k19) k20) k21) k22) k23) Facts.heard) Facts.enter) k26) k27) k28) k29) k30) k31)
theorem named : Try.prog.funcNamed Rows.pqmodelInvariantRow.func = some 4 := by kernel_rfl
theorem inst : Func.isInstance Try.prog Try.f4 Rows.pqmodelInvariantRow.origin Rows.pqmodelInvariantRow.targs := of_decide_eq_true (by kernel_rfl)
theorem wrap : Func.isWrapper Try.prog Try.f4 Rows.pqmodelInvariantRow.wrapper Rows.pqmodelInvariantRow.mainSum := by unfold Func.isWrapper; first | (rw [if_pos (by decide +kernel)]; kernel_rfl) | (rw [if_neg (by decide +kernel)]; exact ⟨rfl, rfl⟩)
theorem over : Rows.pqmodelInvariantRow.holds Try.pinned (OpenSpec.ofChange Rows.pqmodelInvariantSpec) :=
  OpenClaim.holds_of_wide 4 Try.f4 rfl rfl rfl rfl rfl rfl rfl ⟨rfl, rfl, rfl, rfl, rfl⟩ rfl rfl rfl rfl rfl named Try.func4 joined inst wrap
    (fun os started H enc _ => lifted os started H enc)
theorem proved : Rows.PqmodelInvariantSaid :=
  over
#print axioms proved
end Go.Proofs.Ytmihhkcbbdpnaaa.pqmodelInvariant
