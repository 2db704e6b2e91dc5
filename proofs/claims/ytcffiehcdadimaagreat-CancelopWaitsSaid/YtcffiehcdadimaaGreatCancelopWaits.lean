/- For every input, CancelopWaits returns true, and what its arguments read is what they read before. No condition. -/
import Derived.Test.YtcffiehcdadimaaGreatFacts
import Derived.Test.YtcffiehcdadimaaGreatJ42
namespace Go.Proofs.YtcffiehcdadimaaGreat.cancelopWaits
open Abs
open Go.ChangeShapes Go.WideShapes Go.ChangeAt Go.RowKit
set_option linter.unusedVariables false

theorem own : ownKnob Tryz.prog.godebug = none := by kernel_rfl
set_option maxRecDepth 100000
theorem lifted (os : Os) (started : os.Started) (H : Type) (enc : TypeId × Value → H) :
    ReturnsInHanded {} Tryz.checked os 5 .any (Rows.cancelopWaitsSpec.pre6 enc Tryz.prog Tryz.f5 Rows.cancelopWaitsRow.domain false) (Rows.cancelopWaitsSpec.post enc Tryz.prog Tryz.f5 false true false false) := by
  refine returnsInHanded_of_change (C := Tryz.checked) own started (by kernel_rfl) Tryz.func5
    (ChangeSpec.witness6 (enc := enc) (C := Tryz.checked) false ⟨#[], #[.int .u8 0, .slice none 0 0, .int .i64 0, .int .u8 0], []⟩ 8 (by kernel_rfl) (by kernel_rfl) (by kernel_rfl) (by kernel_rfl)) ?_
  intro W base args ds gs before hval hW _ _
  exact rowCalls tab_ok 5 (congrArg Array.toList Tryz.params5) (by kernel_rfl) (by kernel_rfl) rfl (fun ds hds => by
    have hds : ds.length = 4 := hds
    match ds, hds with
    | [_, _, _, _], _ => rfl) rfl Tryz.underlying4 specCancelopWaits W base args ds gs before hval hW
theorem k0 : (Rows.cancelopWaitsRow.wf (OpenSpec.ofChange Rows.cancelopWaitsSpec)) = true := by kernel_rfl
theorem k3 : (Tryz.f5.params.all (Tryz.prog.readableRec ·)) = true := by kernel_rfl
theorem k4 : (namedTie Tryz.prog Rows.cancelopWaitsRow.named Rows.cancelopWaitsSpec.vars) = true := by kernel_rfl
theorem k5 : ((Rows.cancelopWaitsRow.stops == [])) = true := by kernel_rfl
theorem k7 : ((Rows.cancelopWaitsRow.knobs == [])) = true := by kernel_rfl
theorem k9 : ((Rows.cancelopWaitsRow.inPlace == Tryz.prog.inPlace 5)) = true := by kernel_rfl
theorem k10 : ((Rows.cancelopWaitsRow.unfollowed == Tryz.prog.unfollowed 5)) = true := by kernel_rfl
theorem k11 : ((Rows.cancelopWaitsRow.recurses == Tryz.prog.recurses 5)) = true := by kernel_rfl
theorem k12 : ((Rows.cancelopWaitsRow.named == Tryz.prog.varsNamed 5)) = true := by kernel_rfl
theorem k13 : ((Rows.cancelopWaitsRow.maps == (Tryz.f5.params.toList ++ Rows.cancelopWaitsSpec.plain.varTypes Tryz.prog).any (Tryz.prog.mapsRec ·))) = true := by kernel_rfl
theorem k14 : ((Rows.cancelopWaitsRow.ifaces == (Tryz.f5.params.toList ++ Rows.cancelopWaitsSpec.plain.varTypes Tryz.prog).any (Tryz.prog.ifacesRec ·))) = true := by kernel_rfl
theorem k15 : ((Rows.cancelopWaitsRow.mapsOut == Tryz.prog.mapsAmong Tryz.f5.resultTypes.toList)) = true := by kernel_rfl
theorem k16 : ((Rows.cancelopWaitsRow.loops == (Tryz.f5.params.toList ++ Rows.cancelopWaitsSpec.plain.varTypes Tryz.prog).any (Tryz.prog.loopsFrom ·))) = true := by kernel_rfl
theorem k17 : ((Rows.cancelopWaitsRow.wideKeys == (Tryz.f5.params.toList ++ Rows.cancelopWaitsSpec.plain.varTypes Tryz.prog ++ Tryz.f5.resultTypes.toList).any (Tryz.prog.wideKeysFrom ·))) = true := by kernel_rfl
theorem k18 : (Rows.cancelopWaitsSpec.vars.all (Tryz.prog.varReadable ·)) = true := by kernel_rfl
theorem k19 : (Tryz.f5.resultTypes.all (fun t => Tryz.prog.readableRec t && decide (t < Tryz.prog.types.size))) = true := by kernel_rfl
theorem k20 : ((Rows.cancelopWaitsRow.ifacesOut == Tryz.f5.resultTypes.toList.any (Tryz.prog.ifacesRec ·))) = true := by kernel_rfl
theorem k21 : ((Rows.cancelopWaitsRow.loopsOut == Tryz.f5.resultTypes.toList.any (Tryz.prog.loopsFrom ·))) = true := by kernel_rfl
theorem k22 : ((Rows.cancelopWaitsRow.plainKeys == Tryz.prog.plainKeys)) = true := by kernel_rfl
theorem k23 : (Rows.cancelopWaitsRow.shortTexts.isNone) = true := by kernel_rfl
theorem k26 : ((Rows.cancelopWaitsRow.lifted == Tryz.prog.liftsFinal)) = true := by rw [Facts.lifts]; kernel_rfl
theorem k27 : ((Tryz.prog.make == some Rows.cancelopWaitsRow.make)) = true := by rw [Facts.made]; kernel_rfl
theorem k28 : ((Rows.cancelopWaitsRow.kinds == (if Rows.cancelopWaitsRow.domain.isEmpty then [] else Tryz.f5.params.toList.map fun t => match Tryz.prog.underlying t with | some (.int k) => some k | _ => none))) = true := by kernel_rfl
theorem k29 : ((Rows.cancelopWaitsRow.pinned == Rows.cancelopWaitsRow.pinnedBy)) = true := by kernel_rfl
theorem k30 : ((Rows.cancelopWaitsRow.veiled == (Tryz.f5.params.toList ++ Rows.cancelopWaitsSpec.plain.varTypes Tryz.prog ++ Tryz.f5.resultTypes.toList).any (Tryz.prog.veiledRec ·))) = true := by kernel_rfl
theorem k31 : (Rows.cancelopWaitsRow.veiledFits Tryz.prog Tryz.f5.params.toList (Tryz.f5.params.toList ++ Rows.cancelopWaitsSpec.plain.varTypes Tryz.prog ++ Tryz.f5.resultTypes.toList)) = true := by kernel_rfl
theorem joined : joinedFacts Tryz.prog 5 Tryz.f5 Rows.cancelopWaitsSpec Rows.cancelopWaitsRow = true := (Facts.and2 (Facts.and2 (Facts.and2 (Facts.and2 (Facts.and2 (Facts.and2 (Facts.and2 (Facts.and2 (Facts.and2 (Facts.and2 (Facts.and2 (Facts.and2 (Facts.and2 (Facts.and2 (Facts.and2 (Facts.and2 (Facts.and2 (Facts.and2 (Facts.and2 (Facts.and2 (Facts.and2 (Facts.and2 (Facts.and2 (Facts.and2 (Facts.and2 (Facts.and2 (Facts.and2 (Facts.and2 (Facts.and2 (Facts.and2 (Facts.and2 k0 Facts.laid) Facts.mapsR) k3) k4) k5) Facts.st) k7) Facts.stk) k9) k10) k11) k12) k13) k14) k15) k16) k17) k18) k19) k20) k21) k22) k23) Facts.heard) Facts.enter) k26) k27) k28) k29) k30) k31)
theorem named : Tryz.prog.funcNamed Rows.cancelopWaitsRow.func = some 5 := by kernel_rfl
theorem inst : Func.isInstance Tryz.prog Tryz.f5 Rows.cancelopWaitsRow.origin Rows.cancelopWaitsRow.targs := of_decide_eq_true (by kernel_rfl)
theorem wrap : Func.isWrapper Tryz.prog Tryz.f5 Rows.cancelopWaitsRow.wrapper Rows.cancelopWaitsRow.mainSum := by unfold Func.isWrapper; first | (rw [if_pos (by decide +kernel)]; kernel_rfl) | (rw [if_neg (by decide +kernel)]; exact ⟨rfl, rfl⟩)
theorem over : Rows.cancelopWaitsRow.holds Tryz.pinned (OpenSpec.ofChange Rows.cancelopWaitsSpec) :=
  OpenClaim.holds_of_wide 5 Tryz.f5 rfl rfl rfl rfl rfl rfl rfl ⟨rfl, rfl, rfl, rfl, rfl⟩ rfl rfl rfl rfl rfl named Tryz.func5 joined inst wrap
    (fun os started H enc _ => lifted os started H enc)
theorem proved : Rows.CancelopWaitsSaid :=
  over
#print axioms proved
end Go.Proofs.YtcffiehcdadimaaGreat.cancelopWaits
