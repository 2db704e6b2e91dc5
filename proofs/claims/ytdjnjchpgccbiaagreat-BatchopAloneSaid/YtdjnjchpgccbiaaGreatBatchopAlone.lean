/- For every input, BatchopAlone returns true, and what its arguments read is what they read before. No condition. -/
import Derived.Test.YtdjnjchpgccbiaaGreatFacts
import Derived.Test.YtdjnjchpgccbiaaGreatNE
namespace Go.Proofs.YtdjnjchpgccbiaaGreat.batchopAlone
open Abs
open Go.ChangeShapes Go.WideShapes Go.ChangeAt Go.RowKit
set_option linter.unusedVariables false
theorem own : ownKnob Tryz.prog.godebug = none:=by kernel_rfl
set_option maxRecDepth 100000
theorem lifted (os : Os) (started : os.Started) (H : Type) (enc : TypeId × Value → H) :
 ReturnsInHanded {} Tryz.checked os 6 .any (Rows.batchopAloneSpec.pre6 enc Tryz.prog Tryz.f6 Rows.batchopAloneRow.domain false) (Rows.batchopAloneSpec.post enc Tryz.prog Tryz.f6 false true false false):=by
 refine returnsInHanded_of_change (C:=Tryz.checked) own started (by kernel_rfl) Tryz.func6
  (ChangeSpec.witness6 (enc:=enc) (C:=Tryz.checked) false ⟨#[],#[.int .u8 0,.slice none 0 0,.int .u8 0,.int .i64 0],[]⟩ 8 (by kernel_rfl) (by kernel_rfl) (by kernel_rfl) (by kernel_rfl)) ?_
 intro W base args ds gs before hval hW _ _
 exact rowCalls tab_ok 5 (congrArg Array.toList Tryz.params6) (by kernel_rfl) (by kernel_rfl) rfl (fun ds hds=>by
  have hds : ds.length = 4:=hds
  match ds,hds with
  | [_,_,_,_],_=>rfl) rfl Tryz.underlying4 specBatchopAlone W base args ds gs before hval hW
theorem k0 : (Rows.batchopAloneRow.wf (OpenSpec.ofChange Rows.batchopAloneSpec)) = true:=by kernel_rfl
theorem k3 : (Tryz.f6.params.all (Tryz.prog.readableRec ·)) = true:=by kernel_rfl
theorem k4 : (namedTie Tryz.prog Rows.batchopAloneRow.named Rows.batchopAloneSpec.vars) = true:=by kernel_rfl
theorem k5 : ((Rows.batchopAloneRow.stops == [])) = true:=by kernel_rfl
theorem k7 : ((Rows.batchopAloneRow.knobs == [])) = true:=by kernel_rfl
theorem k9 : ((Rows.batchopAloneRow.inPlace == Tryz.prog.inPlace 6)) = true:=by kernel_rfl
theorem k10 : ((Rows.batchopAloneRow.unfollowed == Tryz.prog.unfollowed 6)) = true:=by kernel_rfl
theorem k11 : ((Rows.batchopAloneRow.recurses == Tryz.prog.recurses 6)) = true:=by kernel_rfl
theorem k12 : ((Rows.batchopAloneRow.named == Tryz.prog.varsNamed 6)) = true:=by kernel_rfl
theorem k13 : ((Rows.batchopAloneRow.maps == (Tryz.f6.params.toList ++ Rows.batchopAloneSpec.plain.varTypes Tryz.prog).any (Tryz.prog.mapsRec ·))) = true:=by kernel_rfl
theorem k14 : ((Rows.batchopAloneRow.ifaces == (Tryz.f6.params.toList ++ Rows.batchopAloneSpec.plain.varTypes Tryz.prog).any (Tryz.prog.ifacesRec ·))) = true:=by kernel_rfl
theorem k15 : ((Rows.batchopAloneRow.mapsOut == Tryz.prog.mapsAmong Tryz.f6.resultTypes.toList)) = true:=by kernel_rfl
theorem k16 : ((Rows.batchopAloneRow.loops == (Tryz.f6.params.toList ++ Rows.batchopAloneSpec.plain.varTypes Tryz.prog).any (Tryz.prog.loopsFrom ·))) = true:=by kernel_rfl
theorem k17 : ((Rows.batchopAloneRow.wideKeys == (Tryz.f6.params.toList ++ Rows.batchopAloneSpec.plain.varTypes Tryz.prog ++ Tryz.f6.resultTypes.toList).any (Tryz.prog.wideKeysFrom ·))) = true:=by kernel_rfl
theorem k18 : (Rows.batchopAloneSpec.vars.all (Tryz.prog.varReadable ·)) = true:=by kernel_rfl
theorem k19 : (Tryz.f6.resultTypes.all (fun t=>Tryz.prog.readableRec t && decide (t < Tryz.prog.types.size))) = true:=by kernel_rfl
theorem k20 : ((Rows.batchopAloneRow.ifacesOut == Tryz.f6.resultTypes.toList.any (Tryz.prog.ifacesRec ·))) = true:=by kernel_rfl
theorem k21 : ((Rows.batchopAloneRow.loopsOut == Tryz.f6.resultTypes.toList.any (Tryz.prog.loopsFrom ·))) = true:=by kernel_rfl
theorem k22 : ((Rows.batchopAloneRow.plainKeys == Tryz.prog.plainKeys)) = true:=by kernel_rfl
theorem k23 : (Rows.batchopAloneRow.shortTexts.isNone) = true:=by kernel_rfl
theorem k26 : ((Rows.batchopAloneRow.lifted == Tryz.prog.liftsFinal)) = true:=by rw [Facts.lifts];kernel_rfl
theorem k27 : ((Tryz.prog.make == some Rows.batchopAloneRow.make)) = true:=by rw [Facts.made];kernel_rfl
theorem k28 : ((Rows.batchopAloneRow.kinds == (if Rows.batchopAloneRow.domain.isEmpty then [] else Tryz.f6.params.toList.map fun t=>match Tryz.prog.underlying t with | some (.int k)=>some k | _=>none))) = true:=by kernel_rfl
theorem k29 : ((Rows.batchopAloneRow.pinned == Rows.batchopAloneRow.pinnedBy)) = true:=by kernel_rfl
theorem k30 : ((Rows.batchopAloneRow.veiled == (Tryz.f6.params.toList ++ Rows.batchopAloneSpec.plain.varTypes Tryz.prog ++ Tryz.f6.resultTypes.toList).any (Tryz.prog.veiledRec ·))) = true:=by kernel_rfl
theorem k31 : (Rows.batchopAloneRow.veiledFits Tryz.prog Tryz.f6.params.toList (Tryz.f6.params.toList ++ Rows.batchopAloneSpec.plain.varTypes Tryz.prog ++ Tryz.f6.resultTypes.toList)) = true:=by kernel_rfl
theorem joined : joinedFacts Tryz.prog 6 Tryz.f6 Rows.batchopAloneSpec Rows.batchopAloneRow = true:=(Facts.and2 (Facts.and2 (Facts.and2 (Facts.and2 (Facts.and2 (Facts.and2 (Facts.and2 (Facts.and2 (Facts.and2 (Facts.and2 (Facts.and2 (Facts.and2 (Facts.and2 (Facts.and2 (Facts.and2 (Facts.and2 (Facts.and2 (Facts.and2 (Facts.and2 (Facts.and2 (Facts.and2 (Facts.and2 (Facts.and2 (Facts.and2 (Facts.and2 (Facts.and2 (Facts.and2 (Facts.and2 (Facts.and2 (Facts.and2 (Facts.and2 k0 Facts.laid) Facts.mapsR) k3) k4) k5) Facts.st) k7) Facts.stk) k9) k10) k11) k12) k13) k14) k15) k16) k17) k18) k19) k20) k21) k22) k23) Facts.heard) Facts.enter) k26) k27) k28) k29) k30) k31)
theorem named : Tryz.prog.funcNamed Rows.batchopAloneRow.func = some 6:=by kernel_rfl
theorem inst : Func.isInstance Tryz.prog Tryz.f6 Rows.batchopAloneRow.origin Rows.batchopAloneRow.targs:=of_decide_eq_true (by kernel_rfl)
theorem wrap : Func.isWrapper Tryz.prog Tryz.f6 Rows.batchopAloneRow.wrapper Rows.batchopAloneRow.mainSum:=by unfold Func.isWrapper;first | (rw [if_pos (by decide +kernel)];kernel_rfl) | (rw [if_neg (by decide +kernel)];exact ⟨rfl,rfl⟩)
theorem over : Rows.batchopAloneRow.holds Tryz.pinned (OpenSpec.ofChange Rows.batchopAloneSpec):=
 OpenClaim.holds_of_wide 6 Tryz.f6 rfl rfl rfl rfl rfl rfl rfl ⟨rfl,rfl,rfl,rfl,rfl⟩ rfl rfl rfl rfl rfl named Tryz.func6 joined inst wrap
  (fun os started H enc _=>lifted os started H enc)
theorem proved : Rows.BatchopAloneSaid:=
 over
#print axioms proved
end Go.Proofs.YtdjnjchpgccbiaaGreat.batchopAlone
