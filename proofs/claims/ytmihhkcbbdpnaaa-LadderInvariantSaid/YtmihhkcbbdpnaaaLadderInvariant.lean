/- For every input, LadderInvariant returns true, and what its arguments read is what they read before. No condition. -/
import Derived.Test.YtmihhkcbbdpnaaaFacts
import Derived.Test.YtmihhkcbbdpnaaaG67
namespace Go.Proofs.Ytmihhkcbbdpnaaa.ladderInvariant
open Abs
open Go.ChangeShapes Go.WideShapes Go.ChangeAt Go.RowKit
set_option linter.unusedVariables false

theorem own : ownKnob Try.prog.godebug = none := by kernel_rfl
set_option maxRecDepth 100000
theorem lifted (os : Os) (started : os.Started) (H : Type) (enc : TypeId × Value → H) :
    ReturnsInHanded {} Try.checked os 14 .any (Rows.ladderInvariantSpec.pre6 enc Try.prog Try.f14 Rows.ladderInvariantRow.domain false) (Rows.ladderInvariantSpec.post enc Try.prog Try.f14 false true false false) := by
  refine returnsInHanded_of_change (C := Try.checked) own started (by kernel_rfl) Try.func14
    (ChangeSpec.witness6 (enc := enc) (C := Try.checked) false ⟨#[], #[.slice none 0 0, .agg #[.bool false, .int .u64 0, .bool false]], []⟩ 8 (by kernel_rfl) (by kernel_rfl) (by kernel_rfl) (by kernel_rfl)) ?_
  intro W base args ds gs before hval hW _ _
  exact rowCalls tab_ok 5 (congrArg Array.toList Try.params14) (by kernel_rfl) (by kernel_rfl) rfl (fun ds hds => by
    have hds : ds.length = 2 := hds
    match ds, hds with
    | [_, _], _ => rfl) rfl Try.underlying4 specLInvariant W base args ds gs before hval hW
theorem k0 : (Rows.ladderInvariantRow.wf (OpenSpec.ofChange Rows.ladderInvariantSpec)) = true := by kernel_rfl
theorem k3 : (Try.f14.params.all (Try.prog.readableRec ·)) = true := by kernel_rfl
theorem k4 : (namedTie Try.prog Rows.ladderInvariantRow.named Rows.ladderInvariantSpec.vars) = true := by kernel_rfl
theorem k5 : ((Rows.ladderInvariantRow.stops == [])) = true := by kernel_rfl
theorem k7 : ((Rows.ladderInvariantRow.knobs == [])) = true := by kernel_rfl
theorem k9 : ((Rows.ladderInvariantRow.inPlace == Try.prog.inPlace 14)) = true := by kernel_rfl
theorem k10 : ((Rows.ladderInvariantRow.unfollowed == Try.prog.unfollowed 14)) = true := by kernel_rfl
theorem k11 : ((Rows.ladderInvariantRow.recurses == Try.prog.recurses 14)) = true := by kernel_rfl
theorem k12 : ((Rows.ladderInvariantRow.named == Try.prog.varsNamed 14)) = true := by kernel_rfl
theorem k13 : ((Rows.ladderInvariantRow.maps == (Try.f14.params.toList ++ Rows.ladderInvariantSpec.plain.varTypes Try.prog).any (Try.prog.mapsRec ·))) = true := by kernel_rfl
theorem k14 : ((Rows.ladderInvariantRow.ifaces == (Try.f14.params.toList ++ Rows.ladderInvariantSpec.plain.varTypes Try.prog).any (Try.prog.ifacesRec ·))) = true := by kernel_rfl
theorem k15 : ((Rows.ladderInvariantRow.mapsOut == Try.prog.mapsAmong Try.f14.resultTypes.toList)) = true := by kernel_rfl
theorem k16 : ((Rows.ladderInvariantRow.loops == (Try.f14.params.toList ++ Rows.ladderInvariantSpec.plain.varTypes Try.prog).any (Try.prog.loopsFrom ·))) = true := by kernel_rfl
theorem k17 : ((Rows.ladderInvariantRow.wideKeys == (Try.f14.params.toList ++ Rows.ladderInvariantSpec.plain.varTypes Try.prog ++ Try.f14.resultTypes.toList).any (Try.prog.wideKeysFrom ·))) = true := by kernel_rfl
theorem k18 : (Rows.ladderInvariantSpec.vars.all (Try.prog.varReadable ·)) = true := by kernel_rfl
theorem k19 : (Try.f14.resultTypes.all (fun t => Try.prog.readableRec t && decide (t < Try.prog.types.size))) = true := by kernel_rfl
theorem k20 : ((Rows.ladderInvariantRow.ifacesOut == Try.f14.resultTypes.toList.any (Try.prog.ifacesRec ·))) = true := by kernel_rfl
theorem k21 : ((Rows.ladderInvariantRow.loopsOut == Try.f14.resultTypes.toList.any (Try.prog.loopsFrom ·))) = true := by kernel_rfl
theorem k22 : ((Rows.ladderInvariantRow.plainKeys == Try.prog.plainKeys)) = true := by kernel_rfl
theorem k23 : (Rows.ladderInvariantRow.shortTexts.isNone) = true := by kernel_rfl
theorem k26 : ((Rows.ladderInvariantRow.lifted == Try.prog.liftsFinal)) = true := by rw [Facts.lifts]; kernel_rfl
theorem k27 : ((Try.prog.make == some Rows.ladderInvariantRow.make)) = true := by rw [Facts.made]; kernel_rfl
theorem k28 : ((Rows.ladderInvariantRow.kinds == (if Rows.ladderInvariantRow.domain.isEmpty then [] else Try.f14.params.toList.map fun t => match Try.prog.underlying t with | some (.int k) => some k | _ => none))) = true := by kernel_rfl
theorem k29 : ((Rows.ladderInvariantRow.pinned == Rows.ladderInvariantRow.pinnedBy)) = true := by kernel_rfl
theorem k30 : ((Rows.ladderInvariantRow.veiled == (Try.f14.params.toList ++ Rows.ladderInvariantSpec.plain.varTypes Try.prog ++ Try.f14.resultTypes.toList).any (Try.prog.veiledRec ·))) = true := by kernel_rfl
theorem k31 : (Rows.ladderInvariantRow.veiledFits Try.prog Try.f14.params.toList (Try.f14.params.toList ++ Rows.ladderInvariantSpec.plain.varTypes Try.prog ++ Try.f14.resultTypes.toList)) = true := by kernel_rfl
theorem joined : joinedFacts Try.prog 14 Try.f14 Rows.ladderInvariantSpec Rows.ladderInvariantRow = true := (Facts.and2 (Facts.and2 (Facts.and2 (Facts.and2 (Facts.and2 (Facts.and2 (Facts.and2 (Facts.and2 (Facts.and2 (Facts.and2 (Facts.and2 (Facts.and2 (Facts.and2 (Facts.and2 (Facts.and2 (Facts.and2 (Facts.and2 (Facts.and2 (Facts.and2 (Facts.and2 (Facts.and2 (Facts.and2 (Facts.and2 (Facts.and2 (Facts.and2 (Facts.and2 (Facts.and2 (Facts.and2 (Facts.and2 (Facts.and2 (Facts.and2 k0 Facts.laid) Facts.mapsR) k3) k4) k5) Facts.st) k7) Facts.stk) k9) k10) k11) k12) k13) k14) k15) k16) k17) k18) k19) k20) k21) k22) k23) Facts.heard) Facts.enter) k26) k27) k28) k29) k30) k31)
theorem named : Try.prog.funcNamed Rows.ladderInvariantRow.func = some 14 := by kernel_rfl
theorem inst : Func.isInstance Try.prog Try.f14 Rows.ladderInvariantRow.origin Rows.ladderInvariantRow.targs := of_decide_eq_true (by kernel_rfl)
theorem wrap : Func.isWrapper Try.prog Try.f14 Rows.ladderInvariantRow.wrapper Rows.ladderInvariantRow.mainSum := by unfold Func.isWrapper; first | (rw [if_pos (by decide +kernel)]; kernel_rfl) | (rw [if_neg (by decide +kernel)]; exact ⟨rfl, rfl⟩)
theorem over : Rows.ladderInvariantRow.holds Try.pinned (OpenSpec.ofChange Rows.ladderInvariantSpec) :=
  OpenClaim.holds_of_wide 14 Try.f14 rfl rfl rfl rfl rfl rfl rfl ⟨rfl, rfl, rfl, rfl, rfl⟩ rfl rfl rfl rfl rfl named Try.func14 joined inst wrap
    (fun os started H enc _ => lifted os started H enc)
theorem proved : Rows.LadderInvariantSaid :=
  over
#print axioms proved
end Go.Proofs.Ytmihhkcbbdpnaaa.ladderInvariant
