/- For every input, CancelopMatchesReference returns true, and what its arguments read is what they read before. No condition. -/
import Derived.Test.YtcffiehcdadimaaGreatFacts
import Derived.Test.YtcffiehcdadimaaGreatJ44
namespace Go.Proofs.YtcffiehcdadimaaGreat.cancelopMatchesReference
open Abs
open Go.ChangeShapes Go.WideShapes Go.ChangeAt Go.RowKit
set_option linter.unusedVariables false

theorem own : ownKnob Tryz.prog.godebug = none := by kernel_rfl
set_option maxRecDepth 100000
theorem lifted (os : Os) (started : os.Started) (H : Type) (enc : TypeId × Value → H) :
    ReturnsInHanded {} Tryz.checked os 7 .any (Rows.cancelopMatchesReferenceSpec.pre6 enc Tryz.prog Tryz.f7 Rows.cancelopMatchesReferenceRow.domain false) (Rows.cancelopMatchesReferenceSpec.post enc Tryz.prog Tryz.f7 false true false false) := by
  refine returnsInHanded_of_change (C := Tryz.checked) own started (by kernel_rfl) Tryz.func7
    (ChangeSpec.witness6 (enc := enc) (C := Tryz.checked) false ⟨#[], #[.int .u8 0, .slice none 0 0, .slice none 0 0, .slice none 0 0], []⟩ 8 (by kernel_rfl) (by kernel_rfl) (by kernel_rfl) (by kernel_rfl)) ?_
  intro W base args ds gs before hval hW _ _
  exact rowCalls tab_ok 5 (congrArg Array.toList Tryz.params7) (by kernel_rfl) (by kernel_rfl) rfl (fun ds hds => by
    have hds : ds.length = 4 := hds
    match ds, hds with
    | [_, _, _, _], _ => rfl) rfl Tryz.underlying4 specCancelopMatchesReference W base args ds gs before hval hW
theorem k0 : (Rows.cancelopMatchesReferenceRow.wf (OpenSpec.ofChange Rows.cancelopMatchesReferenceSpec)) = true := by kernel_rfl
theorem k3 : (Tryz.f7.params.all (Tryz.prog.readableRec ·)) = true := by kernel_rfl
theorem k4 : (namedTie Tryz.prog Rows.cancelopMatchesReferenceRow.named Rows.cancelopMatchesReferenceSpec.vars) = true := by kernel_rfl
theorem k5 : ((Rows.cancelopMatchesReferenceRow.stops == [])) = true := by kernel_rfl
theorem k7 : ((Rows.cancelopMatchesReferenceRow.knobs == [])) = true := by kernel_rfl
theorem k9 : ((Rows.cancelopMatchesReferenceRow.inPlace == Tryz.prog.inPlace 7)) = true := by kernel_rfl
theorem k10 : ((Rows.cancelopMatchesReferenceRow.unfollowed == Tryz.prog.unfollowed 7)) = true := by kernel_rfl
theorem k11 : ((Rows.cancelopMatchesReferenceRow.recurses == Tryz.prog.recurses 7)) = true := by kernel_rfl
theorem k12 : ((Rows.cancelopMatchesReferenceRow.named == Tryz.prog.varsNamed 7)) = true := by kernel_rfl
theorem k13 : ((Rows.cancelopMatchesReferenceRow.maps == (Tryz.f7.params.toList ++ Rows.cancelopMatchesReferenceSpec.plain.varTypes Tryz.prog).any (Tryz.prog.mapsRec ·))) = true := by kernel_rfl
theorem k14 : ((Rows.cancelopMatchesReferenceRow.ifaces == (Tryz.f7.params.toList ++ Rows.cancelopMatchesReferenceSpec.plain.varTypes Tryz.prog).any (Tryz.prog.ifacesRec ·))) = true := by kernel_rfl
theorem k15 : ((Rows.cancelopMatchesReferenceRow.mapsOut == Tryz.prog.mapsAmong Tryz.f7.resultTypes.toList)) = true := by kernel_rfl
theorem k16 : ((Rows.cancelopMatchesReferenceRow.loops == (Tryz.f7.params.toList ++ Rows.cancelopMatchesReferenceSpec.plain.varTypes Tryz.prog).any (Tryz.prog.loopsFrom ·))) = true := by kernel_rfl
theorem k17 : ((Rows.cancelopMatchesReferenceRow.wideKeys == (Tryz.f7.params.toList ++ Rows.cancelopMatchesReferenceSpec.plain.varTypes Tryz.prog ++ Tryz.f7.resultTypes.toList).any (Tryz.prog.wideKeysFrom ·))) = true := by kernel_rfl
theorem k18 : (Rows.cancelopMatchesReferenceSpec.vars.all (Tryz.prog.varReadable ·)) = true := by kernel_rfl
theorem k19 : (Tryz.f7.resultTypes.all (fun t => Tryz.prog.readableRec t && decide (t < Tryz.prog.types.size))) = true := by kernel_rfl
theorem k20 : ((Rows.cancelopMatchesReferenceRow.ifacesOut == Tryz.f7.resultTypes.toList.any (Tryz.prog.ifacesRec ·))) = true := by kernel_rfl
theorem k21 : ((Rows.cancelopMatchesReferenceRow.loopsOut == Tryz.f7.resultTypes.toList.any (Tryz.prog.loopsFrom ·))) = true := by kernel_rfl
theorem k22 : ((Rows.cancelopMatchesReferenceRow.plainKeys == Tryz.prog.plainKeys)) = true := by kernel_rfl
theorem k23 : (Rows.cancelopMatchesReferenceRow.shortTexts.isNone) = true := by kernel_rfl
theorem k26 : ((Rows.cancelopMatchesReferenceRow.lifted == Tryz.prog.liftsFinal)) = true := by rw [Facts.lifts]; kernel_rfl
theorem k27 : ((Tryz.prog.make == some Rows.cancelopMatchesReferenceRow.make)) = true := by rw [Facts.made]; kernel_rfl
theorem k28 : ((Rows.cancelopMatchesReferenceRow.kinds == (if Rows.cancelopMatchesReferenceRow.domain.isEmpty then [] else Tryz.f7.params.toList.map fun t => match Tryz.prog.underlying t with | some (.int k) => some k | _ => none))) = true := by kernel_rfl
theorem k29 : ((Rows.cancelopMatchesReferenceRow.pinned == Rows.cancelopMatchesReferenceRow.pinnedBy)) = true := by kernel_rfl
theorem k30 : ((Rows.cancelopMatchesReferenceRow.veiled == (Tryz.f7.params.toList ++ Rows.cancelopMatchesReferenceSpec.plain.varTypes Tryz.prog ++ Tryz.f7.resultTypes.toList).any (Tryz.prog.veiledRec ·))) = true := by kernel_rfl
theorem k31 : (Rows.cancelopMatchesReferenceRow.veiledFits Tryz.prog Tryz.f7.params.toList (Tryz.f7.params.toList ++ Rows.cancelopMatchesReferenceSpec.plain.varTypes Tryz.prog ++ Tryz.f7.resultTypes.toList)) = true := by kernel_rfl
theorem joined : joinedFacts Tryz.prog 7 Tryz.f7 Rows.cancelopMatchesReferenceSpec Rows.cancelopMatchesReferenceRow = true := (Facts.and2 (Facts.and2 (Facts.and2 (Facts.and2 (Facts.and2 (Facts.and2 (Facts.and2 (Facts.and2 (Facts.and2 (Facts.and2 (Facts.and2 (Facts.and2 (Facts.and2 (Facts.and2 (Facts.and2 (Facts.and2 (Facts.and2 (Facts.and2 (Facts.and2 (Facts.and2 (Facts.and2 (Facts.and2 (Facts.and2 (Facts.and2 (Facts.and2 (Facts.and2 (Facts.and2 (Facts.and2 (Facts.and2 (Facts.and2 (Facts.and2 k0 Facts.laid) Facts.mapsR) k3) k4) k5) Facts.st) k7) Facts.stk) k9) k10) k11) k12) k13) k14) k15) k16) k17) k18) k19) k20) k21) k22) k23) Facts.heard) Facts.enter) k26) k27) k28) k29) k30) k31)
theorem named : Tryz.prog.funcNamed Rows.cancelopMatchesReferenceRow.func = some 7 := by kernel_rfl
theorem inst : Func.isInstance Tryz.prog Tryz.f7 Rows.cancelopMatchesReferenceRow.origin Rows.cancelopMatchesReferenceRow.targs := of_decide_eq_true (by kernel_rfl)
theorem wrap : Func.isWrapper Tryz.prog Tryz.f7 Rows.cancelopMatchesReferenceRow.wrapper Rows.cancelopMatchesReferenceRow.mainSum := by unfold Func.isWrapper; first | (rw [if_pos (by decide +kernel)]; kernel_rfl) | (rw [if_neg (by decide +kernel)]; exact ⟨rfl, rfl⟩)
theorem over : Rows.cancelopMatchesReferenceRow.holds Tryz.pinned (OpenSpec.ofChange Rows.cancelopMatchesReferenceSpec) :=
  OpenClaim.holds_of_wide 7 Tryz.f7 rfl rfl rfl rfl rfl rfl rfl ⟨rfl, rfl, rfl, rfl, rfl⟩ rfl rfl rfl rfl rfl named Tryz.func7 joined inst wrap
    (fun os started H enc _ => lifted os started H enc)
theorem proved : Rows.CancelopMatchesReferenceSaid :=
  over
#print axioms proved
end Go.Proofs.YtcffiehcdadimaaGreat.cancelopMatchesReference
