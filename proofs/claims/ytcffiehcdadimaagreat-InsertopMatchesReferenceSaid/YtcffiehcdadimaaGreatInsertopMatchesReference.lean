/- For every input, InsertopMatchesReference returns true, and what its arguments read is what they read before. No condition. -/
import Derived.Test.YtcffiehcdadimaaGreatFacts
import Derived.Test.YtcffiehcdadimaaGreatM24
namespace Go.Proofs.YtcffiehcdadimaaGreat.insertopMatchesReference
open Abs
open Go.ChangeShapes Go.WideShapes Go.ChangeAt Go.RowKit
set_option linter.unusedVariables false
theorem own : ownKnob Tryz.prog.godebug = none := by kernel_rfl
set_option maxRecDepth 100000
theorem lifted (os : Os) (started : os.Started) (H : Type) (enc : TypeId × Value → H) :
 ReturnsInHanded {} Tryz.checked os 10 .any (Rows.insertopMatchesReferenceSpec.pre6 enc Tryz.prog Tryz.f10 Rows.insertopMatchesReferenceRow.domain false) (Rows.insertopMatchesReferenceSpec.post enc Tryz.prog Tryz.f10 false true false false) := by
 refine returnsInHanded_of_change (C := Tryz.checked) own started (by kernel_rfl) Tryz.func10
  (ChangeSpec.witness6 (enc := enc) (C := Tryz.checked) false ⟨#[], #[.int .u8 0, .slice none 0 0, .slice none 0 0, .slice none 0 0], []⟩ 8 (by kernel_rfl) (by kernel_rfl) (by kernel_rfl) (by kernel_rfl)) ?_
 intro W base args ds gs before hval hW _ _
 exact rowCalls tab_ok 5 (congrArg Array.toList Tryz.params10) (by kernel_rfl) (by kernel_rfl) rfl (fun ds hds => by
  have hds : ds.length = 4 := hds
  match ds, hds with
  | [_, _, _, _], _ => rfl) rfl Tryz.underlying4 specInsertopMatchesReference W base args ds gs before hval hW
theorem k0 : (Rows.insertopMatchesReferenceRow.wf (OpenSpec.ofChange Rows.insertopMatchesReferenceSpec)) = true := by kernel_rfl
theorem k3 : (Tryz.f10.params.all (Tryz.prog.readableRec ·)) = true := by kernel_rfl
theorem k4 : (namedTie Tryz.prog Rows.insertopMatchesReferenceRow.named Rows.insertopMatchesReferenceSpec.vars) = true := by kernel_rfl
theorem k5 : ((Rows.insertopMatchesReferenceRow.stops == [])) = true := by kernel_rfl
theorem k7 : ((Rows.insertopMatchesReferenceRow.knobs == [])) = true := by kernel_rfl
theorem k9 : ((Rows.insertopMatchesReferenceRow.inPlace == Tryz.prog.inPlace 10)) = true := by kernel_rfl
theorem k10 : ((Rows.insertopMatchesReferenceRow.unfollowed == Tryz.prog.unfollowed 10)) = true := by kernel_rfl
theorem k11 : ((Rows.insertopMatchesReferenceRow.recurses == Tryz.prog.recurses 10)) = true := by kernel_rfl
theorem k12 : ((Rows.insertopMatchesReferenceRow.named == Tryz.prog.varsNamed 10)) = true := by kernel_rfl
theorem k13 : ((Rows.insertopMatchesReferenceRow.maps == (Tryz.f10.params.toList ++ Rows.insertopMatchesReferenceSpec.plain.varTypes Tryz.prog).any (Tryz.prog.mapsRec ·))) = true := by kernel_rfl
theorem k14 : ((Rows.insertopMatchesReferenceRow.ifaces == (Tryz.f10.params.toList ++ Rows.insertopMatchesReferenceSpec.plain.varTypes Tryz.prog).any (Tryz.prog.ifacesRec ·))) = true := by kernel_rfl
theorem k15 : ((Rows.insertopMatchesReferenceRow.mapsOut == Tryz.prog.mapsAmong Tryz.f10.resultTypes.toList)) = true := by kernel_rfl
theorem k16 : ((Rows.insertopMatchesReferenceRow.loops == (Tryz.f10.params.toList ++ Rows.insertopMatchesReferenceSpec.plain.varTypes Tryz.prog).any (Tryz.prog.loopsFrom ·))) = true := by kernel_rfl
theorem k17 : ((Rows.insertopMatchesReferenceRow.wideKeys == (Tryz.f10.params.toList ++ Rows.insertopMatchesReferenceSpec.plain.varTypes Tryz.prog ++ Tryz.f10.resultTypes.toList).any (Tryz.prog.wideKeysFrom ·))) = true := by kernel_rfl
theorem k18 : (Rows.insertopMatchesReferenceSpec.vars.all (Tryz.prog.varReadable ·)) = true := by kernel_rfl
theorem k19 : (Tryz.f10.resultTypes.all (fun t => Tryz.prog.readableRec t && decide (t < Tryz.prog.types.size))) = true := by kernel_rfl
theorem k20 : ((Rows.insertopMatchesReferenceRow.ifacesOut == Tryz.f10.resultTypes.toList.any (Tryz.prog.ifacesRec ·))) = true := by kernel_rfl
theorem k21 : ((Rows.insertopMatchesReferenceRow.loopsOut == Tryz.f10.resultTypes.toList.any (Tryz.prog.loopsFrom ·))) = true := by kernel_rfl
theorem k22 : ((Rows.insertopMatchesReferenceRow.plainKeys == Tryz.prog.plainKeys)) = true := by kernel_rfl
theorem k23 : (Rows.insertopMatchesReferenceRow.shortTexts.isNone) = true := by kernel_rfl
theorem k26 : ((Rows.insertopMatchesReferenceRow.lifted == Tryz.prog.liftsFinal)) = true := by rw [Facts.lifts]; kernel_rfl
theorem k27 : ((Tryz.prog.make == some Rows.insertopMatchesReferenceRow.make)) = true := by rw [Facts.made]; kernel_rfl
theorem k28 : ((Rows.insertopMatchesReferenceRow.kinds == (if Rows.insertopMatchesReferenceRow.domain.isEmpty then [] else Tryz.f10.params.toList.map fun t => match Tryz.prog.underlying t with | some (.int k) => some k | _ => none))) = true := by kernel_rfl
theorem k29 : ((Rows.insertopMatchesReferenceRow.pinned == Rows.insertopMatchesReferenceRow.pinnedBy)) = true := by kernel_rfl
theorem k30 : ((Rows.insertopMatchesReferenceRow.veiled == (Tryz.f10.params.toList ++ Rows.insertopMatchesReferenceSpec.plain.varTypes Tryz.prog ++ Tryz.f10.resultTypes.toList).any (Tryz.prog.veiledRec ·))) = true := by kernel_rfl
theorem k31 : (Rows.insertopMatchesReferenceRow.veiledFits Tryz.prog Tryz.f10.params.toList (Tryz.f10.params.toList ++ Rows.insertopMatchesReferenceSpec.plain.varTypes Tryz.prog ++ Tryz.f10.resultTypes.toList)) = true := by kernel_rfl
theorem joined : joinedFacts Tryz.prog 10 Tryz.f10 Rows.insertopMatchesReferenceSpec Rows.insertopMatchesReferenceRow = true := (Facts.and2 (Facts.and2 (Facts.and2 (Facts.and2 (Facts.and2 (Facts.and2 (Facts.and2 (Facts.and2 (Facts.and2 (Facts.and2 (Facts.and2 (Facts.and2 (Facts.and2 (Facts.and2 (Facts.and2 (Facts.and2 (Facts.and2 (Facts.and2 (Facts.and2 (Facts.and2 (Facts.and2 (Facts.and2 (Facts.and2 (Facts.and2 (Facts.and2 (Facts.and2 (Facts.and2 (Facts.and2 (Facts.and2 (Facts.and2 (Facts.and2 k0 Facts.laid) Facts.mapsR) k3) k4) k5) Facts.st) k7) Facts.stk) k9) k10) k11) k12) k13) k14) k15) k16) k17) k18) k19) k20) k21) k22) k23) Facts.heard) Facts.enter) k26) k27) k28) k29) k30) k31)
theorem named : Tryz.prog.funcNamed Rows.insertopMatchesReferenceRow.func = some 10 := by kernel_rfl
theorem inst : Func.isInstance Tryz.prog Tryz.f10 Rows.insertopMatchesReferenceRow.origin Rows.insertopMatchesReferenceRow.targs := of_decide_eq_true (by kernel_rfl)
theorem wrap : Func.isWrapper Tryz.prog Tryz.f10 Rows.insertopMatchesReferenceRow.wrapper Rows.insertopMatchesReferenceRow.mainSum := by unfold Func.isWrapper; first | (rw [if_pos (by decide +kernel)]; kernel_rfl) | (rw [if_neg (by decide +kernel)]; exact ⟨rfl, rfl⟩)
theorem over : Rows.insertopMatchesReferenceRow.holds Tryz.pinned (OpenSpec.ofChange Rows.insertopMatchesReferenceSpec) :=
 OpenClaim.holds_of_wide 10 Tryz.f10 rfl rfl rfl rfl rfl rfl rfl ⟨rfl, rfl, rfl, rfl, rfl⟩ rfl rfl rfl rfl rfl named Tryz.func10 joined inst wrap
  (fun os started H enc _ => lifted os started H enc)
theorem proved : Rows.InsertopMatchesReferenceSaid :=
 over
#print axioms proved
end Go.Proofs.YtcffiehcdadimaaGreat.insertopMatchesReference
