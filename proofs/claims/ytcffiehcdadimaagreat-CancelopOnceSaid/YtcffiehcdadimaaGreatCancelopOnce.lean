/- For every input, CancelopOnce returns true, and what its arguments read is what they read before. No condition. -/
import Derived.Test.YtcffiehcdadimaaGreatFacts
import Derived.Test.YtcffiehcdadimaaGreatJ43
namespace Go.Proofs.YtcffiehcdadimaaGreat.cancelopOnce
open Abs
open Go.ChangeShapes Go.WideShapes Go.ChangeAt Go.RowKit
set_option linter.unusedVariables false

theorem own : ownKnob Tryz.prog.godebug = none := by kernel_rfl
set_option maxRecDepth 100000
theorem lifted (os : Os) (started : os.Started) (H : Type) (enc : TypeId × Value → H) :
    ReturnsInHanded {} Tryz.checked os 3 .any (Rows.cancelopOnceSpec.pre6 enc Tryz.prog Tryz.f3 Rows.cancelopOnceRow.domain false) (Rows.cancelopOnceSpec.post enc Tryz.prog Tryz.f3 false true false false) := by
  refine returnsInHanded_of_change (C := Tryz.checked) own started (by kernel_rfl) Tryz.func3
    (ChangeSpec.witness6 (enc := enc) (C := Tryz.checked) false ⟨#[], #[.int .u8 0, .slice none 0 0, .int .i64 0, .slice none 0 0], []⟩ 8 (by kernel_rfl) (by kernel_rfl) (by kernel_rfl) (by kernel_rfl)) ?_
  intro W base args ds gs before hval hW _ _
  exact rowCalls tab_ok 5 (congrArg Array.toList Tryz.params3) (by kernel_rfl) (by kernel_rfl) rfl (fun ds hds => by
    have hds : ds.length = 4 := hds
    match ds, hds with
    | [_, _, _, _], _ => rfl) rfl Tryz.underlying4 specCancelopOnce W base args ds gs before hval hW
theorem k0 : (Rows.cancelopOnceRow.wf (OpenSpec.ofChange Rows.cancelopOnceSpec)) = true := by kernel_rfl
theorem k3 : (Tryz.f3.params.all (Tryz.prog.readableRec ·)) = true := by kernel_rfl
theorem k4 : (namedTie Tryz.prog Rows.cancelopOnceRow.named Rows.cancelopOnceSpec.vars) = true := by kernel_rfl
theorem k5 : ((Rows.cancelopOnceRow.stops == [])) = true := by kernel_rfl
theorem k7 : ((Rows.cancelopOnceRow.knobs == [])) = true := by kernel_rfl
theorem k9 : ((Rows.cancelopOnceRow.inPlace == Tryz.prog.inPlace 3)) = true := by kernel_rfl
theorem k10 : ((Rows.cancelopOnceRow.unfollowed == Tryz.prog.unfollowed 3)) = true := by kernel_rfl
theorem k11 : ((Rows.cancelopOnceRow.recurses == Tryz.prog.recurses 3)) = true := by kernel_rfl
theorem k12 : ((Rows.cancelopOnceRow.named == Tryz.prog.varsNamed 3)) = true := by kernel_rfl
theorem k13 : ((Rows.cancelopOnceRow.maps == (Tryz.f3.params.toList ++ Rows.cancelopOnceSpec.plain.varTypes Tryz.prog).any (Tryz.prog.mapsRec ·))) = true := by kernel_rfl
theorem k14 : ((Rows.cancelopOnceRow.ifaces == (Tryz.f3.params.toList ++ Rows.cancelopOnceSpec.plain.varTypes Tryz.prog).any (Tryz.prog.ifacesRec ·))) = true := by kernel_rfl
theorem k15 : ((Rows.cancelopOnceRow.mapsOut == Tryz.prog.mapsAmong Tryz.f3.resultTypes.toList)) = true := by kernel_rfl
theorem k16 : ((Rows.cancelopOnceRow.loops == (Tryz.f3.params.toList ++ Rows.cancelopOnceSpec.plain.varTypes Tryz.prog).any (Tryz.prog.loopsFrom ·))) = true := by kernel_rfl
theorem k17 : ((Rows.cancelopOnceRow.wideKeys == (Tryz.f3.params.toList ++ Rows.cancelopOnceSpec.plain.varTypes Tryz.prog ++ Tryz.f3.resultTypes.toList).any (Tryz.prog.wideKeysFrom ·))) = true := by kernel_rfl
theorem k18 : (Rows.cancelopOnceSpec.vars.all (Tryz.prog.varReadable ·)) = true := by kernel_rfl
theorem k19 : (Tryz.f3.resultTypes.all (fun t => Tryz.prog.readableRec t && decide (t < Tryz.prog.types.size))) = true := by kernel_rfl
theorem k20 : ((Rows.cancelopOnceRow.ifacesOut == Tryz.f3.resultTypes.toList.any (Tryz.prog.ifacesRec ·))) = true := by kernel_rfl
theorem k21 : ((Rows.cancelopOnceRow.loopsOut == Tryz.f3.resultTypes.toList.any (Tryz.prog.loopsFrom ·))) = true := by kernel_rfl
theorem k22 : ((Rows.cancelopOnceRow.plainKeys == Tryz.prog.plainKeys)) = true := by kernel_rfl
theorem k23 : (Rows.cancelopOnceRow.shortTexts.isNone) = true := by kernel_rfl
theorem k26 : ((Rows.cancelopOnceRow.lifted == Tryz.prog.liftsFinal)) = true := by rw [Facts.lifts]; kernel_rfl
theorem k27 : ((Tryz.prog.make == some Rows.cancelopOnceRow.make)) = true := by rw [Facts.made]; kernel_rfl
theorem k28 : ((Rows.cancelopOnceRow.kinds == (if Rows.cancelopOnceRow.domain.isEmpty then [] else Tryz.f3.params.toList.map fun t => match Tryz.prog.underlying t with | some (.int k) => some k | _ => none))) = true := by kernel_rfl
theorem k29 : ((Rows.cancelopOnceRow.pinned == Rows.cancelopOnceRow.pinnedBy)) = true := by kernel_rfl
theorem k30 : ((Rows.cancelopOnceRow.veiled == (Tryz.f3.params.toList ++ Rows.cancelopOnceSpec.plain.varTypes Tryz.prog ++ Tryz.f3.resultTypes.toList).any (Tryz.prog.veiledRec ·))) = true := by kernel_rfl
theorem k31 : (Rows.cancelopOnceRow.veiledFits Tryz.prog Tryz.f3.params.toList (Tryz.f3.params.toList ++ Rows.cancelopOnceSpec.plain.varTypes Tryz.prog ++ Tryz.f3.resultTypes.toList)) = true := by kernel_rfl
theorem joined : joinedFacts Tryz.prog 3 Tryz.f3 Rows.cancelopOnceSpec Rows.cancelopOnceRow = true := (Facts.and2 (Facts.and2 (Facts.and2 (Facts.and2 (Facts.and2 (Facts.and2 (Facts.and2 (Facts.and2 (Facts.and2 (Facts.and2 (Facts.and2 (Facts.and2 (Facts.and2 (Facts.and2 (Facts.and2 (Facts.and2 (Facts.and2 (Facts.and2 (Facts.and2 (Facts.and2 (Facts.and2 (Facts.and2 (Facts.and2 (Facts.and2 (Facts.and2 (Facts.and2 (Facts.and2 (Facts.and2 (Facts.and2 (Facts.and2 (Facts.and2 k0 Facts.laid) Facts.mapsR) k3) k4) k5) Facts.st) k7) Facts.stk) k9) k10) k11) k12) k13) k14) k15) k16) k17) k18) k19) k20) k21) k22) k23) Facts.heard) Facts.enter) k26) k27) k28) k29) k30) k31)
theorem named : Tryz.prog.funcNamed Rows.cancelopOnceRow.func = some 3 := by kernel_rfl
theorem inst : Func.isInstance Tryz.prog Tryz.f3 Rows.cancelopOnceRow.origin Rows.cancelopOnceRow.targs := of_decide_eq_true (by kernel_rfl)
theorem wrap : Func.isWrapper Tryz.prog Tryz.f3 Rows.cancelopOnceRow.wrapper Rows.cancelopOnceRow.mainSum := by unfold Func.isWrapper; first | (rw [if_pos (by decide +kernel)]; kernel_rfl) | (rw [if_neg (by decide +kernel)]; exact ⟨rfl, rfl⟩)
theorem over : Rows.cancelopOnceRow.holds Tryz.pinned (OpenSpec.ofChange Rows.cancelopOnceSpec) :=
  OpenClaim.holds_of_wide 3 Tryz.f3 rfl rfl rfl rfl rfl rfl rfl ⟨rfl, rfl, rfl, rfl, rfl⟩ rfl rfl rfl rfl rfl named Tryz.func3 joined inst wrap
    (fun os started H enc _ => lifted os started H enc)
theorem proved : Rows.CancelopOnceSaid :=
  over
#print axioms proved
end Go.Proofs.YtcffiehcdadimaaGreat.cancelopOnce
