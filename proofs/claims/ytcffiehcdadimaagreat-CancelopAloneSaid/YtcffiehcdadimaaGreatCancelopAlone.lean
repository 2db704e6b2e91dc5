/- For every input, CancelopAlone returns true, and what its arguments read is what they read before. No condition. -/
import Derived.Test.YtcffiehcdadimaaGreatFacts
import Derived.Test.YtcffiehcdadimaaGreatJ41
namespace Go.Proofs.YtcffiehcdadimaaGreat.cancelopAlone
open Abs
open Go.ChangeShapes Go.WideShapes Go.ChangeAt Go.RowKit
set_option linter.unusedVariables false

theorem own : ownKnob Tryz.prog.godebug = none := by kernel_rfl
set_option maxRecDepth 100000
theorem lifted (os : Os) (started : os.Started) (H : Type) (enc : TypeId × Value → H) :
    ReturnsInHanded {} Tryz.checked os 4 .any (Rows.cancelopAloneSpec.pre6 enc Tryz.prog Tryz.f4 Rows.cancelopAloneRow.domain false) (Rows.cancelopAloneSpec.post enc Tryz.prog Tryz.f4 false true false false) := by
  refine returnsInHanded_of_change (C := Tryz.checked) own started (by kernel_rfl) Tryz.func4
    (ChangeSpec.witness6 (enc := enc) (C := Tryz.checked) false ⟨#[], #[.int .u8 0, .slice none 0 0, .int .i64 0], []⟩ 8 (by kernel_rfl) (by kernel_rfl) (by kernel_rfl) (by kernel_rfl)) ?_
  intro W base args ds gs before hval hW _ _
  exact rowCalls tab_ok 5 (congrArg Array.toList Tryz.params4) (by kernel_rfl) (by kernel_rfl) rfl (fun ds hds => by
    have hds : ds.length = 3 := hds
    match ds, hds with
    | [_, _, _], _ => rfl) rfl Tryz.underlying4 specCancelopAlone W base args ds gs before hval hW
theorem k0 : (Rows.cancelopAloneRow.wf (OpenSpec.ofChange Rows.cancelopAloneSpec)) = true := by kernel_rfl
theorem k3 : (Tryz.f4.params.all (Tryz.prog.readableRec ·)) = true := by kernel_rfl
theorem k4 : (namedTie Tryz.prog Rows.cancelopAloneRow.named Rows.cancelopAloneSpec.vars) = true := by kernel_rfl
theorem k5 : ((Rows.cancelopAloneRow.stops == [])) = true := by kernel_rfl
theorem k7 : ((Rows.cancelopAloneRow.knobs == [])) = true := by kernel_rfl
theorem k9 : ((Rows.cancelopAloneRow.inPlace == Tryz.prog.inPlace 4)) = true := by kernel_rfl
theorem k10 : ((Rows.cancelopAloneRow.unfollowed == Tryz.prog.unfollowed 4)) = true := by kernel_rfl
theorem k11 : ((Rows.cancelopAloneRow.recurses == Tryz.prog.recurses 4)) = true := by kernel_rfl
theorem k12 : ((Rows.cancelopAloneRow.named == Tryz.prog.varsNamed 4)) = true := by kernel_rfl
theorem k13 : ((Rows.cancelopAloneRow.maps == (Tryz.f4.params.toList ++ Rows.cancelopAloneSpec.plain.varTypes Tryz.prog).any (Tryz.prog.mapsRec ·))) = true := by kernel_rfl
theorem k14 : ((Rows.cancelopAloneRow.ifaces == (Tryz.f4.params.toList ++ Rows.cancelopAloneSpec.plain.varTypes Tryz.prog).any (Tryz.prog.ifacesRec ·))) = true := by kernel_rfl
theorem k15 : ((Rows.cancelopAloneRow.mapsOut == Tryz.prog.mapsAmong Tryz.f4.resultTypes.toList)) = true := by kernel_rfl
theorem k16 : ((Rows.cancelopAloneRow.loops == (Tryz.f4.params.toList ++ Rows.cancelopAloneSpec.plain.varTypes Tryz.prog).any (Tryz.prog.loopsFrom ·))) = true := by kernel_rfl
theorem k17 : ((Rows.cancelopAloneRow.wideKeys == (Tryz.f4.params.toList ++ Rows.cancelopAloneSpec.plain.varTypes Tryz.prog ++ Tryz.f4.resultTypes.toList).any (Tryz.prog.wideKeysFrom ·))) = true := by kernel_rfl
theorem k18 : (Rows.cancelopAloneSpec.vars.all (Tryz.prog.varReadable ·)) = true := by kernel_rfl
theorem k19 : (Tryz.f4.resultTypes.all (fun t => Tryz.prog.readableRec t && decide (t < Tryz.prog.types.size))) = true := by kernel_rfl
theorem k20 : ((Rows.cancelopAloneRow.ifacesOut == Tryz.f4.resultTypes.toList.any (Tryz.prog.ifacesRec ·))) = true := by kernel_rfl
theorem k21 : ((Rows.cancelopAloneRow.loopsOut == Tryz.f4.resultTypes.toList.any (Tryz.prog.loopsFrom ·))) = true := by kernel_rfl
theorem k22 : ((Rows.cancelopAloneRow.plainKeys == Tryz.prog.plainKeys)) = true := by kernel_rfl
theorem k23 : (Rows.cancelopAloneRow.shortTexts.isNone) = true := by kernel_rfl
theorem k26 : ((Rows.cancelopAloneRow.lifted == Tryz.prog.liftsFinal)) = true := by rw [Facts.lifts]; kernel_rfl
theorem k27 : ((Tryz.prog.make == some Rows.cancelopAloneRow.make)) = true := by rw [Facts.made]; kernel_rfl
theorem k28 : ((Rows.cancelopAloneRow.kinds == (if Rows.cancelopAloneRow.domain.isEmpty then [] else Tryz.f4.params.toList.map fun t => match Tryz.prog.underlying t with | some (.int k) => some k | _ => none))) = true := by kernel_rfl
theorem k29 : ((Rows.cancelopAloneRow.pinned == Rows.cancelopAloneRow.pinnedBy)) = true := by kernel_rfl
theorem k30 : ((Rows.cancelopAloneRow.veiled == (Tryz.f4.params.toList ++ Rows.cancelopAloneSpec.plain.varTypes Tryz.prog ++ Tryz.f4.resultTypes.toList).any (Tryz.prog.veiledRec ·))) = true := by kernel_rfl
theorem k31 : (Rows.cancelopAloneRow.veiledFits Tryz.prog Tryz.f4.params.toList (Tryz.f4.params.toList ++ Rows.cancelopAloneSpec.plain.varTypes Tryz.prog ++ Tryz.f4.resultTypes.toList)) = true := by kernel_rfl
theorem joined : joinedFacts Tryz.prog 4 Tryz.f4 Rows.cancelopAloneSpec Rows.cancelopAloneRow = true := (Facts.and2 (Facts.and2 (Facts.and2 (Facts.and2 (Facts.and2 (Facts.and2 (Facts.and2 (Facts.and2 (Facts.and2 (Facts.and2 (Facts.and2 (Facts.and2 (Facts.and2 (Facts.and2 (Facts.and2 (Facts.and2 (Facts.and2 (Facts.and2 (Facts.and2 (Facts.and2 (Facts.and2 (Facts.and2 (Facts.and2 (Facts.and2 (Facts.and2 (Facts.and2 (Facts.and2 (Facts.and2 (Facts.and2 (Facts.and2 (Facts.and2 k0 Facts.laid) Facts.mapsR) k3) k4) k5) Facts.st) k7) Facts.stk) k9) k10) k11) k12) k13) k14) k15) k16) k17) k18) k19) k20) k21) k22) k23) Facts.heard) Facts.enter) k26) k27) k28) k29) k30) k31)
theorem named : Tryz.prog.funcNamed Rows.cancelopAloneRow.func = some 4 := by kernel_rfl
theorem inst : Func.isInstance Tryz.prog Tryz.f4 Rows.cancelopAloneRow.origin Rows.cancelopAloneRow.targs := of_decide_eq_true (by kernel_rfl)
theorem wrap : Func.isWrapper Tryz.prog Tryz.f4 Rows.cancelopAloneRow.wrapper Rows.cancelopAloneRow.mainSum := by unfold Func.isWrapper; first | (rw [if_pos (by decide +kernel)]; kernel_rfl) | (rw [if_neg (by decide +kernel)]; exact ⟨rfl, rfl⟩)
theorem over : Rows.cancelopAloneRow.holds Tryz.pinned (OpenSpec.ofChange Rows.cancelopAloneSpec) :=
  OpenClaim.holds_of_wide 4 Tryz.f4 rfl rfl rfl rfl rfl rfl rfl ⟨rfl, rfl, rfl, rfl, rfl⟩ rfl rfl rfl rfl rfl named Tryz.func4 joined inst wrap
    (fun os started H enc _ => lifted os started H enc)
theorem proved : Rows.CancelopAloneSaid :=
  over
#print axioms proved
end Go.Proofs.YtcffiehcdadimaaGreat.cancelopAlone
