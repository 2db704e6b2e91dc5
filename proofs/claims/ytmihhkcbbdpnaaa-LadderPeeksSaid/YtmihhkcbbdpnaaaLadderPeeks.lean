/- For every input, LadderPeeks returns true, and what its arguments read is what they read before. No condition. -/
import Derived.Test.YtmihhkcbbdpnaaaFacts
import Derived.Test.YtmihhkcbbdpnaaaG71
namespace Go.Proofs.Ytmihhkcbbdpnaaa.ladderPeeks
open Abs
open Go.ChangeShapes Go.WideShapes Go.ChangeAt Go.RowKit
set_option linter.unusedVariables false

theorem own : ownKnob Try.prog.godebug = none := by kernel_rfl
set_option maxRecDepth 100000
theorem lifted (os : Os) (started : os.Started) (H : Type) (enc : TypeId × Value → H) :
    ReturnsInHanded {} Try.checked os 17 .any (Rows.ladderPeeksSpec.pre6 enc Try.prog Try.f17 Rows.ladderPeeksRow.domain false) (Rows.ladderPeeksSpec.post enc Try.prog Try.f17 false true false false) := by
  refine returnsInHanded_of_change (C := Try.checked) own started (by kernel_rfl) Try.func17
    (ChangeSpec.witness6 (enc := enc) (C := Try.checked) false ⟨#[], #[.slice none 0 0, .agg #[.bool false, .int .u64 0, .bool false]], []⟩ 8 (by kernel_rfl) (by kernel_rfl) (by kernel_rfl) (by kernel_rfl)) ?_
  intro W base args ds gs before hval hW _ _
  exact rowCalls tab_ok 5 (congrArg Array.toList Try.params17) (by kernel_rfl) (by kernel_rfl) rfl (fun ds hds => by
    have hds : ds.length = 2 := hds
    match ds, hds with
    | [_, _], _ => rfl) rfl Try.underlying4 specLPeeks W base args ds gs before hval hW
theorem k0 : (Rows.ladderPeeksRow.wf (OpenSpec.ofChange Rows.ladderPeeksSpec)) = true := by kernel_rfl
theorem k3 : (Try.f17.params.all (Try.prog.readableRec ·)) = true := by kernel_rfl
theorem k4 : (namedTie Try.prog Rows.ladderPeeksRow.named Rows.ladderPeeksSpec.vars) = true := by kernel_rfl
theorem k5 : ((Rows.ladderPeeksRow.stops == [])) = true := by kernel_rfl
theorem k7 : ((Rows.ladderPeeksRow.knobs == [])) = true := by kernel_rfl
theorem k9 : ((Rows.ladderPeeksRow.inPlace == Try.prog.inPlace 17)) = true := by kernel_rfl
theorem k10 : ((Rows.ladderPeeksRow.unfollowed == Try.prog.unfollowed 17)) = true := by kernel_rfl
theorem k11 : ((Rows.ladderPeeksRow.recurses == Try.prog.recurses 17)) = true := by kernel_rfl
theorem k12 : ((Rows.ladderPeeksRow.named == Try.prog.varsNamed 17)) = true := by kernel_rfl
theorem k13 : ((Rows.ladderPeeksRow.maps == (Try.f17.params.toList ++ Rows.ladderPeeksSpec.plain.varTypes Try.prog).any (Try.prog.mapsRec ·))) = true := by kernel_rfl
theorem k14 : ((Rows.ladderPeeksRow.ifaces == (Try.f17.params.toList ++ Rows.ladderPeeksSpec.plain.varTypes Try.prog).any (Try.prog.ifacesRec ·))) = true := by kernel_rfl
theorem k15 : ((Rows.ladderPeeksRow.mapsOut == Try.prog.mapsAmong Try.f17.resultTypes.toList)) = true := by kernel_rfl
theorem k16 : ((Rows.ladderPeeksRow.loops == (Try.f17.params.toList ++ Rows.ladderPeeksSpec.plain.varTypes Try.prog).any (Try.prog.loopsFrom ·))) = true := by kernel_rfl
theorem k17 : ((Rows.ladderPeeksRow.wideKeys == (Try.f17.params.toList ++ Rows.ladderPeeksSpec.plain.varTypes Try.prog ++ Try.f17.resultTypes.toList).any (Try.prog.wideKeysFrom ·))) = true := by kernel_rfl
theorem k18 : (Rows.ladderPeeksSpec.vars.all (Try.prog.varReadable ·)) = true := by kernel_rfl
theorem k19 : (Try.f17.resultTypes.all (fun t => Try.prog.readableRec t && decide (t < Try.prog.types.size))) = true := by kernel_rfl
theorem k20 : ((Rows.ladderPeeksRow.ifacesOut == Try.f17.resultTypes.toList.any (Try.prog.ifacesRec ·))) = true := by kernel_rfl
theorem k21 : ((Rows.ladderPeeksRow.loopsOut == Try.f17.resultTypes.toList.any (Try.prog.loopsFrom ·))) = true := by kernel_rfl
theorem k22 : ((Rows.ladderPeeksRow.plainKeys == Try.prog.plainKeys)) = true := by kernel_rfl
theorem k23 : (Rows.ladderPeeksRow.shortTexts.isNone) = true := by kernel_rfl
theorem k26 : ((Rows.ladderPeeksRow.lifted == Try.prog.liftsFinal)) = true := by rw [Facts.lifts]; kernel_rfl
theorem k27 : ((Try.prog.make == some Rows.ladderPeeksRow.make)) = true := by rw [Facts.made]; kernel_rfl
theorem k28 : ((Rows.ladderPeeksRow.kinds == (if Rows.ladderPeeksRow.domain.isEmpty then [] else Try.f17.params.toList.map fun t => match Try.prog.underlying t with | some (.int k) => some k | _ => none))) = true := by kernel_rfl
theorem k29 : ((Rows.ladderPeeksRow.pinned == Rows.ladderPeeksRow.pinnedBy)) = true := by kernel_rfl
theorem k30 : ((Rows.ladderPeeksRow.veiled == (Try.f17.params.toList ++ Rows.ladderPeeksSpec.plain.varTypes Try.prog ++ Try.f17.resultTypes.toList).any (Try.prog.veiledRec ·))) = true := by kernel_rfl
theorem k31 : (Rows.ladderPeeksRow.veiledFits Try.prog Try.f17.params.toList (Try.f17.params.toList ++ Rows.ladderPeeksSpec.plain.varTypes Try.prog ++ Try.f17.resultTypes.toList)) = true := by kernel_rfl
theorem joined : joinedFacts Try.prog 17 Try.f17 Rows.ladderPeeksSpec Rows.ladderPeeksRow = true := (Facts.and2 (Facts.and2 (Facts.and2 (Facts.and2 (Facts.and2 (Facts.and2 (Facts.and2 (Facts.and2 (Facts.and2 (Facts.and2 (Facts.and2 (Facts.and2 (Facts.and2 (Facts.and2 (Facts.and2 (Facts.and2 (Facts.and2 (Facts.and2 (Facts.and2 (Facts.and2 (Facts.and2 (Facts.and2 (Facts.and2 (Facts.and2 (Facts.and2 (Facts.and2 (Facts.and2 (Facts.and2 (Facts.and2 (Facts.and2 (Facts.and2 k0 Facts.laid) Facts.mapsR) k3) k4) k5) Facts.st) k7) Facts.stk) k9) k10) k11) k12) k13) k14) k15) k16) k17) k18) k19) k20) k21) k22) k23) Facts.heard) Facts.enter) k26) k27) k28) k29) k30) k31)
theorem named : Try.prog.funcNamed Rows.ladderPeeksRow.func = some 17 := by kernel_rfl
theorem inst : Func.isInstance Try.prog Try.f17 Rows.ladderPeeksRow.origin Rows.ladderPeeksRow.targs := of_decide_eq_true (by kernel_rfl)
theorem wrap : Func.isWrapper Try.prog Try.f17 Rows.ladderPeeksRow.wrapper Rows.ladderPeeksRow.mainSum := by unfold Func.isWrapper; first | (rw [if_pos (by decide +kernel)]; kernel_rfl) | (rw [if_neg (by decide +kernel)]; exact ⟨rfl, rfl⟩)
theorem over : Rows.ladderPeeksRow.holds Try.pinned (OpenSpec.ofChange Rows.ladderPeeksSpec) :=
  OpenClaim.holds_of_wide 17 Try.f17 rfl rfl rfl rfl rfl rfl rfl ⟨rfl, rfl, rfl, rfl, rfl⟩ rfl rfl rfl rfl rfl named Try.func17 joined inst wrap
    (fun os started H enc _ => lifted os started H enc)
theorem proved : Rows.LadderPeeksSaid :=
  over
#print axioms proved
end Go.Proofs.Ytmihhkcbbdpnaaa.ladderPeeks
