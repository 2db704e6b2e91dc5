/- For every input, LadderRoutes returns true, and what its arguments read is what they read before. No condition. -/
import Derived.Test.YtmihhkcbbdpnaaaFacts
import Derived.Test.YtmihhkcbbdpnaaaG77
namespace Go.Proofs.Ytmihhkcbbdpnaaa.ladderRoutes
open Abs
open Go.ChangeShapes Go.WideShapes Go.ChangeAt Go.RowKit
set_option linter.unusedVariables false

theorem own : ownKnob Try.prog.godebug = none := by kernel_rfl
set_option maxRecDepth 100000
theorem lifted (os : Os) (started : os.Started) (H : Type) (enc : TypeId × Value → H) :
    ReturnsInHanded {} Try.checked os 19 .any (Rows.ladderRoutesSpec.pre6 enc Try.prog Try.f19 Rows.ladderRoutesRow.domain false) (Rows.ladderRoutesSpec.post enc Try.prog Try.f19 false true false false) := by
  refine returnsInHanded_of_change (C := Try.checked) own started (by kernel_rfl) Try.func19
    (ChangeSpec.witness6 (enc := enc) (C := Try.checked) false ⟨#[], #[.slice none 0 0, .agg #[.bool false, .int .u64 0, .bool false]], []⟩ 8 (by kernel_rfl) (by kernel_rfl) (by kernel_rfl) (by kernel_rfl)) ?_
  intro W base args ds gs before hval hW _ _
  exact rowCalls tab_ok 5 (congrArg Array.toList Try.params19) (by kernel_rfl) (by kernel_rfl) rfl (fun ds hds => by
    have hds : ds.length = 2 := hds
    match ds, hds with
    | [_, _], _ => rfl) rfl Try.underlying4 specLRoutes W base args ds gs before hval hW
theorem k0 : (Rows.ladderRoutesRow.wf (OpenSpec.ofChange Rows.ladderRoutesSpec)) = true := by kernel_rfl
theorem k3 : (Try.f19.params.all (Try.prog.readableRec ·)) = true := by kernel_rfl
theorem k4 : (namedTie Try.prog Rows.ladderRoutesRow.named Rows.ladderRoutesSpec.vars) = true := by kernel_rfl
theorem k5 : ((Rows.ladderRoutesRow.stops == [])) = true := by kernel_rfl
theorem k7 : ((Rows.ladderRoutesRow.knobs == [])) = true := by kernel_rfl
theorem k9 : ((Rows.ladderRoutesRow.inPlace == Try.prog.inPlace 19)) = true := by kernel_rfl
theorem k10 : ((Rows.ladderRoutesRow.unfollowed == Try.prog.unfollowed 19)) = true := by kernel_rfl
theorem k11 : ((Rows.ladderRoutesRow.recurses == Try.prog.recurses 19)) = true := by kernel_rfl
theorem k12 : ((Rows.ladderRoutesRow.named == Try.prog.varsNamed 19)) = true := by kernel_rfl
theorem k13 : ((Rows.ladderRoutesRow.maps == (Try.f19.params.toList ++ Rows.ladderRoutesSpec.plain.varTypes Try.prog).any (Try.prog.mapsRec ·))) = true := by kernel_rfl
theorem k14 : ((Rows.ladderRoutesRow.ifaces == (Try.f19.params.toList ++ Rows.ladderRoutesSpec.plain.varTypes Try.prog).any (Try.prog.ifacesRec ·))) = true := by kernel_rfl
theorem k15 : ((Rows.ladderRoutesRow.mapsOut == Try.prog.mapsAmong Try.f19.resultTypes.toList)) = true := by kernel_rfl
theorem k16 : ((Rows.ladderRoutesRow.loops == (Try.f19.params.toList ++ Rows.ladderRoutesSpec.plain.varTypes Try.prog).any (Try.prog.loopsFrom ·))) = true := by kernel_rfl
theorem k17 : ((Rows.ladderRoutesRow.wideKeys == (Try.f19.params.toList ++ Rows.ladderRoutesSpec.plain.varTypes Try.prog ++ Try.f19.resultTypes.toList).any (Try.prog.wideKeysFrom ·))) = true := by kernel_rfl
theorem k18 : (Rows.ladderRoutesSpec.vars.all (Try.prog.varReadable ·)) = true := by kernel_rfl
theorem k19 : (Try.f19.resultTypes.all (fun t => Try.prog.readableRec t && decide (t < Try.prog.types.size))) = true := by kernel_rfl
theorem k20 : ((Rows.ladderRoutesRow.ifacesOut == Try.f19.resultTypes.toList.any (Try.prog.ifacesRec ·))) = true := by kernel_rfl
theorem k21 : ((Rows.ladderRoutesRow.loopsOut == Try.f19.resultTypes.toList.any (Try.prog.loopsFrom ·))) = true := by kernel_rfl
theorem k22 : ((Rows.ladderRoutesRow.plainKeys == Try.prog.plainKeys)) = true := by kernel_rfl
theorem k23 : (Rows.ladderRoutesRow.shortTexts.isNone) = true := by kernel_rfl
theorem k26 : ((Rows.ladderRoutesRow.lifted == Try.prog.liftsFinal)) = true := by rw [Facts.lifts]; kernel_rfl
theorem k27 : ((Try.prog.make == some Rows.ladderRoutesRow.make)) = true := by rw [Facts.made]; kernel_rfl
theorem k28 : ((Rows.ladderRoutesRow.kinds == (if Rows.ladderRoutesRow.domain.isEmpty then [] else Try.f19.params.toList.map fun t => match Try.prog.underlying t with | some (.int k) => some k | _ => none))) = true := by kernel_rfl
theorem k29 : ((Rows.ladderRoutesRow.pinned == Rows.ladderRoutesRow.pinnedBy)) = true := by kernel_rfl
theorem k30 : ((Rows.ladderRoutesRow.veiled == (Try.f19.params.toList ++ Rows.ladderRoutesSpec.plain.varTypes Try.prog ++ Try.f19.resultTypes.toList).any (Try.prog.veiledRec ·))) = true := by kernel_rfl
theorem k31 : (Rows.ladderRoutesRow.veiledFits Try.prog Try.f19.params.toList (Try.f19.params.toList ++ Rows.ladderRoutesSpec.plain.varTypes Try.prog ++ Try.f19.resultTypes.toList)) = true := by kernel_rfl
theorem joined : joinedFacts Try.prog 19 Try.f19 Rows.ladderRoutesSpec Rows.ladderRoutesRow = true := (Facts.and2 (Facts.and2 (Facts.and2 (Facts.and2 (Facts.and2 (Facts.and2 (Facts.and2 (Facts.and2 (Facts.and2 (Facts.and2 (Facts.and2 (Facts.and2 (Facts.and2 (Facts.and2 (Facts.and2 (Facts.and2 (Facts.and2 (Facts.and2 (Facts.and2 (Facts.and2 (Facts.and2 (Facts.and2 (Facts.and2 (Facts.and2 (Facts.and2 (Facts.and2 (Facts.and2 (Facts.and2 (Facts.and2 (Facts.and2 (Facts.and2 k0 Facts.laid) Facts.mapsR) k3) k4) k5) Facts.st) k7) Facts.stk) k9) k10) k11) k12) k13) k14) k15) k16) k17) k18) k19) k20) k21) k22) k23) Facts.heard) Facts.enter) k26) k27) k28) k29) k30) k31)
theorem named : Try.prog.funcNamed Rows.ladderRoutesRow.func = some 19 := by kernel_rfl
theorem inst : Func.isInstance Try.prog Try.f19 Rows.ladderRoutesRow.origin Rows.ladderRoutesRow.targs := of_decide_eq_true (by kernel_rfl)
theorem wrap : Func.isWrapper Try.prog Try.f19 Rows.ladderRoutesRow.wrapper Rows.ladderRoutesRow.mainSum := by unfold Func.isWrapper; first | (rw [if_pos (by decide +kernel)]; kernel_rfl) | (rw [if_neg (by decide +kernel)]; exact ⟨rfl, rfl⟩)
theorem over : Rows.ladderRoutesRow.holds Try.pinned (OpenSpec.ofChange Rows.ladderRoutesSpec) :=
  OpenClaim.holds_of_wide 19 Try.f19 rfl rfl rfl rfl rfl rfl rfl ⟨rfl, rfl, rfl, rfl, rfl⟩ rfl rfl rfl rfl rfl named Try.func19 joined inst wrap
    (fun os started H enc _ => lifted os started H enc)
theorem proved : Rows.LadderRoutesSaid :=
  over
#print axioms proved
end Go.Proofs.Ytmihhkcbbdpnaaa.ladderRoutes
