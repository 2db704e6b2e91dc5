/- For every input, LadderMoves returns true, and what its arguments read is what they read before. No condition. -/
import Derived.Test.YtmihhkcbbdpnaaaFacts
import Derived.Test.YtmihhkcbbdpnaaaG69
namespace Go.Proofs.Ytmihhkcbbdpnaaa.ladderMoves
open Abs
open Go.ChangeShapes Go.WideShapes Go.ChangeAt Go.RowKit
set_option linter.unusedVariables false

theorem own : ownKnob Try.prog.godebug = none := by kernel_rfl
set_option maxRecDepth 100000
theorem lifted (os : Os) (started : os.Started) (H : Type) (enc : TypeId × Value → H) :
    ReturnsInHanded {} Try.checked os 18 .any (Rows.ladderMovesSpec.pre6 enc Try.prog Try.f18 Rows.ladderMovesRow.domain false) (Rows.ladderMovesSpec.post enc Try.prog Try.f18 false true false false) := by
  refine returnsInHanded_of_change (C := Try.checked) own started (by kernel_rfl) Try.func18
    (ChangeSpec.witness6 (enc := enc) (C := Try.checked) false ⟨#[], #[.slice none 0 0], []⟩ 8 (by kernel_rfl) (by kernel_rfl) (by kernel_rfl) (by kernel_rfl)) ?_
  intro W base args ds gs before hval hW _ _
  exact rowCalls tab_ok 5 (congrArg Array.toList Try.params18) (by kernel_rfl) (by kernel_rfl) rfl (fun ds hds => by
    have hds : ds.length = 1 := hds
    match ds, hds with
    | [_], _ => rfl) rfl Try.underlying4 specLMoves W base args ds gs before hval hW
theorem k0 : (Rows.ladderMovesRow.wf (OpenSpec.ofChange Rows.ladderMovesSpec)) = true := by kernel_rfl
theorem k3 : (Try.f18.params.all (Try.prog.readableRec ·)) = true := by kernel_rfl
theorem k4 : (namedTie Try.prog Rows.ladderMovesRow.named Rows.ladderMovesSpec.vars) = true := by kernel_rfl
theorem k5 : ((Rows.ladderMovesRow.stops == [])) = true := by kernel_rfl
theorem k7 : ((Rows.ladderMovesRow.knobs == [])) = true := by kernel_rfl
theorem k9 : ((Rows.ladderMovesRow.inPlace == Try.prog.inPlace 18)) = true := by kernel_rfl
theorem k10 : ((Rows.ladderMovesRow.unfollowed == Try.prog.unfollowed 18)) = true := by kernel_rfl
theorem k11 : ((Rows.ladderMovesRow.recurses == Try.prog.recurses 18)) = true := by kernel_rfl
theorem k12 : ((Rows.ladderMovesRow.named == Try.prog.varsNamed 18)) = true := by kernel_rfl
theorem k13 : ((Rows.ladderMovesRow.maps == (Try.f18.params.toList ++ Rows.ladderMovesSpec.plain.varTypes Try.prog).any (Try.prog.mapsRec ·))) = true := by kernel_rfl
theorem k14 : ((Rows.ladderMovesRow.ifaces == (Try.f18.params.toList ++ Rows.ladderMovesSpec.plain.varTypes Try.prog).any (Try.prog.ifacesRec ·))) = true := by kernel_rfl
theorem k15 : ((Rows.ladderMovesRow.mapsOut == Try.prog.mapsAmong Try.f18.resultTypes.toList)) = true := by kernel_rfl
theorem k16 : ((Rows.ladderMovesRow.loops == (Try.f18.params.toList ++ Rows.ladderMovesSpec.plain.varTypes Try.prog).any (Try.prog.loopsFrom ·))) = true := by kernel_rfl
theorem k17 : ((Rows.ladderMovesRow.wideKeys == (Try.f18.params.toList ++ Rows.ladderMovesSpec.plain.varTypes Try.prog ++ Try.f18.resultTypes.toList).any (Try.prog.wideKeysFrom ·))) = true := by kernel_rfl
theorem k18 : (Rows.ladderMovesSpec.vars.all (Try.prog.varReadable ·)) = true := by kernel_rfl
theorem k19 : (Try.f18.resultTypes.all (fun t => Try.prog.readableRec t && decide (t < Try.prog.types.size))) = true := by kernel_rfl
theorem k20 : ((Rows.ladderMovesRow.ifacesOut == Try.f18.resultTypes.toList.any (Try.prog.ifacesRec ·))) = true := by kernel_rfl
theorem k21 : ((Rows.ladderMovesRow.loopsOut == Try.f18.resultTypes.toList.any (Try.prog.loopsFrom ·))) = true := by kernel_rfl
theorem k22 : ((Rows.ladderMovesRow.plainKeys == Try.prog.plainKeys)) = true := by kernel_rfl
theorem k23 : (Rows.ladderMovesRow.shortTexts.isNone) = true := by kernel_rfl
theorem k26 : ((Rows.ladderMovesRow.lifted == Try.prog.liftsFinal)) = true := by rw [Facts.lifts]; kernel_rfl
theorem k27 : ((Try.prog.make == some Rows.ladderMovesRow.make)) = true := by rw [Facts.made]; kernel_rfl
theorem k28 : ((Rows.ladderMovesRow.kinds == (if Rows.ladderMovesRow.domain.isEmpty then [] else Try.f18.params.toList.map fun t => match Try.prog.underlying t with | some (.int k) => some k | _ => none))) = true := by kernel_rfl
theorem k29 : ((Rows.ladderMovesRow.pinned == Rows.ladderMovesRow.pinnedBy)) = true := by kernel_rfl
theorem k30 : ((Rows.ladderMovesRow.veiled == (Try.f18.params.toList ++ Rows.ladderMovesSpec.plain.varTypes Try.prog ++ Try.f18.resultTypes.toList).any (Try.prog.veiledRec ·))) = true := by kernel_rfl
theorem k31 : (Rows.ladderMovesRow.veiledFits Try.prog Try.f18.params.toList (Try.f18.params.toList ++ Rows.ladderMovesSpec.plain.varTypes Try.prog ++ Try.f18.resultTypes.toList)) = true := by kernel_rfl
theorem joined : joinedFacts Try.prog 18 Try.f18 Rows.ladderMovesSpec Rows.ladderMovesRow = true := (Facts.and2 (Facts.and2 (Facts.and2 (Facts.and2 (Facts.and2 (Facts.and2 (Facts.and2 (Facts.and2 (Facts.and2 (Facts.and2 (Facts.and2 (Facts.and2 (Facts.and2 (Facts.and2 (Facts.and2 (Facts.and2 (Facts.and2 (Facts.and2 (Facts.and2 (Facts.and2 (Facts.and2 (Facts.and2 (Facts.and2 (Facts.and2 (Facts.and2 (Facts.and2 (Facts.and2 (Facts.and2 (Facts.and2 (Facts.and2 (Facts.and2 k0 Facts.laid) Facts.mapsR) k3) k4) k5) Facts.st) k7) Facts.stk) k9) k10) k11) k12) k13) k14) k15) k16) k17) k18) k19) k20) k21) k22) k23) Facts.heard) Facts.enter) k26) k27) k28) k29) k30) k31)
theorem named : Try.prog.funcNamed Rows.ladderMovesRow.func = some 18 := by kernel_rfl
theorem inst : Func.isInstance Try.prog Try.f18 Rows.ladderMovesRow.origin Rows.ladderMovesRow.targs := of_decide_eq_true (by kernel_rfl)
theorem wrap : Func.isWrapper Try.prog Try.f18 Rows.ladderMovesRow.wrapper Rows.ladderMovesRow.mainSum := by unfold Func.isWrapper; first | (rw [if_pos (by decide +kernel)]; kernel_rfl) | (rw [if_neg (by decide +kernel)]; exact ⟨rfl, rfl⟩)
theorem over : Rows.ladderMovesRow.holds Try.pinned (OpenSpec.ofChange Rows.ladderMovesSpec) :=
  OpenClaim.holds_of_wide 18 Try.f18 rfl rfl rfl rfl rfl rfl rfl ⟨rfl, rfl, rfl, rfl, rfl⟩ rfl rfl rfl rfl rfl named Try.func18 joined inst wrap
    (fun os started H enc _ => lifted os started H enc)
theorem proved : Rows.LadderMovesSaid :=
  over
#print axioms proved
end Go.Proofs.Ytmihhkcbbdpnaaa.ladderMoves
