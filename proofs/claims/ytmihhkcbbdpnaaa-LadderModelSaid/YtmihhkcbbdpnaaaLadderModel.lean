/- For every input, LadderModel returns true, and what its arguments read is what they read before. No condition. -/
import Derived.Test.YtmihhkcbbdpnaaaFacts
import Derived.Test.YtmihhkcbbdpnaaaG77
namespace Go.Proofs.Ytmihhkcbbdpnaaa.ladderModel
open Abs
open Go.ChangeShapes Go.WideShapes Go.ChangeAt Go.RowKit
set_option linter.unusedVariables false

theorem own : ownKnob Try.prog.godebug = none := by kernel_rfl
set_option maxRecDepth 100000
theorem lifted (os : Os) (started : os.Started) (H : Type) (enc : TypeId × Value → H) :
    ReturnsInHanded {} Try.checked os 16 .any (Rows.ladderModelSpec.pre6 enc Try.prog Try.f16 Rows.ladderModelRow.domain false) (Rows.ladderModelSpec.post enc Try.prog Try.f16 false true false false) := by
  refine returnsInHanded_of_change (C := Try.checked) own started (by kernel_rfl) Try.func16
    (ChangeSpec.witness6 (enc := enc) (C := Try.checked) false ⟨#[], #[.slice none 0 0], []⟩ 8 (by kernel_rfl) (by kernel_rfl) (by kernel_rfl) (by kernel_rfl)) ?_
  intro W base args ds gs before hval hW _ _
  exact rowCalls tab_ok 5 (congrArg Array.toList Try.params16) (by kernel_rfl) (by kernel_rfl) rfl (fun ds hds => by
    have hds : ds.length = 1 := hds
    match ds, hds with
    | [_], _ => rfl) rfl Try.underlying4 specLModel W base args ds gs before hval hW
theorem k0 : (Rows.ladderModelRow.wf (OpenSpec.ofChange Rows.ladderModelSpec)) = true := by kernel_rfl
theorem k3 : (Try.f16.params.all (Try.prog.readableRec ·)) = true := by kernel_rfl
theorem k4 : (namedTie Try.prog Rows.ladderModelRow.named Rows.ladderModelSpec.vars) = true := by kernel_rfl
theorem k5 : ((Rows.ladderModelRow.stops == [])) = true := by kernel_rfl
theorem k7 : ((Rows.ladderModelRow.knobs == [])) = true := by kernel_rfl
theorem k9 : ((Rows.ladderModelRow.inPlace == Try.prog.inPlace 16)) = true := by kernel_rfl
theorem k10 : ((Rows.ladderModelRow.unfollowed == Try.prog.unfollowed 16)) = true := by kernel_rfl
theorem k11 : ((Rows.ladderModelRow.recurses == Try.prog.recurses 16)) = true := by kernel_rfl
theorem k12 : ((Rows.ladderModelRow.named == Try.prog.varsNamed 16)) = true := by kernel_rfl
theorem k13 : ((Rows.ladderModelRow.maps == (Try.f16.params.toList ++ Rows.ladderModelSpec.plain.varTypes Try.prog).any (Try.prog.mapsRec ·))) = true := by kernel_rfl
theorem k14 : ((Rows.ladderModelRow.ifaces == (Try.f16.params.toList ++ Rows.ladderModelSpec.plain.varTypes Try.prog).any (Try.prog.ifacesRec ·))) = true := by kernel_rfl
theorem k15 : ((Rows.ladderModelRow.mapsOut == Try.prog.mapsAmong Try.f16.resultTypes.toList)) = true := by kernel_rfl
theorem k16 : ((Rows.ladderModelRow.loops == (Try.f16.params.toList ++ Rows.ladderModelSpec.plain.varTypes Try.prog).any (Try.prog.loopsFrom ·))) = true := by kernel_rfl
theorem k17 : ((Rows.ladderModelRow.wideKeys == (Try.f16.params.toList ++ Rows.ladderModelSpec.plain.varTypes Try.prog ++ Try.f16.resultTypes.toList).any (Try.prog.wideKeysFrom ·))) = true := by kernel_rfl
theorem k18 : (Rows.ladderModelSpec.vars.all (Try.prog.varReadable ·)) = true := by kernel_rfl
theorem k19 : (Try.f16.resultTypes.all (fun t => Try.prog.readableRec t && decide (t < Try.prog.types.size))) = true := by kernel_rfl
theorem k20 : ((Rows.ladderModelRow.ifacesOut == Try.f16.resultTypes.toList.any (Try.prog.ifacesRec ·))) = true := by kernel_rfl
theorem k21 : ((Rows.ladderModelRow.loopsOut == Try.f16.resultTypes.toList.any (Try.prog.loopsFrom ·))) = true := by kernel_rfl
theorem k22 : ((Rows.ladderModelRow.plainKeys == Try.prog.plainKeys)) = true := by kernel_rfl
theorem k23 : (Rows.ladderModelRow.shortTexts.isNone) = true := by kernel_rfl
theorem k26 : ((Rows.ladderModelRow.lifted == Try.prog.liftsFinal)) = true := by rw [Facts.lifts]; kernel_rfl
theorem k27 : ((Try.prog.make == some Rows.ladderModelRow.make)) = true := by rw [Facts.made]; kernel_rfl
theorem k28 : ((Rows.ladderModelRow.kinds == (if Rows.ladderModelRow.domain.isEmpty then [] else Try.f16.params.toList.map fun t => match Try.prog.underlying t with | some (.int k) => some k | _ => none))) = true := by kernel_rfl
theorem k29 : ((Rows.ladderModelRow.pinned == Rows.ladderModelRow.pinnedBy)) = true := by kernel_rfl
theorem k30 : ((Rows.ladderModelRow.veiled == (Try.f16.params.toList ++ Rows.ladderModelSpec.plain.varTypes Try.prog ++ Try.f16.resultTypes.toList).any (Try.prog.veiledRec ·))) = true := by kernel_rfl
theorem k31 : (Rows.ladderModelRow.veiledFits Try.prog Try.f16.params.toList (Try.f16.params.toList ++ Rows.ladderModelSpec.plain.varTypes Try.prog ++ Try.f16.resultTypes.toList)) = true := by kernel_rfl
theorem joined : joinedFacts Try.prog 16 Try.f16 Rows.ladderModelSpec Rows.ladderModelRow = true := (Facts.and2 (Facts.and2 (Facts.and2 (Facts.and2 (Facts.and2 (Facts.and2 (Facts.and2 (Facts.and2 (Facts.and2 (Facts.and2 (Facts.and2 (Facts.and2 (Facts.and2 (Facts.and2 (Facts.and2 (Facts.and2 (Facts.and2 (Facts.and2 (Facts.and2 (Facts.and2 (Facts.and2 (Facts.and2 (Facts.and2 (Facts.and2 (Facts.and2 (Facts.and2 (Facts.and2 (Facts.and2 (Facts.and2 (Facts.and2 (Facts.and2 k0 Facts.laid) Facts.mapsR) k3) k4) k5) Facts.st) k7) Facts.stk) k9) k10) k11) k12) k13) k14) k15) k16) k17) k18) k19) k20) k21) k22) k23) Facts.heard) Facts.enter) k26) k27) k28) k29) k30) k31)
theorem named : Try.prog.funcNamed Rows.ladderModelRow.func = some 16 := by kernel_rfl
theorem inst : Func.isInstance Try.prog Try.f16 Rows.ladderModelRow.origin Rows.ladderModelRow.targs := of_decide_eq_true (by kernel_rfl)
theorem wrap : Func.isWrapper Try.prog Try.f16 Rows.ladderModelRow.wrapper Rows.ladderModelRow.mainSum := by unfold Func.isWrapper; first | (rw [if_pos (by decide +kernel)]; kernel_rfl) | (rw [if_neg (by decide +kernel)]; exact ⟨rfl, rfl⟩)
theorem over : Rows.ladderModelRow.holds Try.pinned (OpenSpec.ofChange Rows.ladderModelSpec) :=
  OpenClaim.holds_of_wide 16 Try.f16 rfl rfl rfl rfl rfl rfl rfl ⟨rfl, rfl, rfl, rfl, rfl⟩ rfl rfl rfl rfl rfl named Try.func16 joined inst wrap
    (fun os started H enc _ => lifted os started H enc)
theorem proved : Rows.LadderModelSaid :=
  over
#print axioms proved
end Go.Proofs.Ytmihhkcbbdpnaaa.ladderModel
