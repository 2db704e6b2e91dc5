/- For every input, InsertopAlone returns true, and what its arguments read is what they read before. No condition. -/
import Derived.Test.YtcffiehcdadimaaGreatFacts
import Derived.Test.YtcffiehcdadimaaGreatML
namespace Go.Proofs.YtcffiehcdadimaaGreat.insertopAlone
open Abs
open Go.ChangeShapes Go.WideShapes Go.ChangeAt Go.RowKit
set_option linter.unusedVariables false
theorem own : ownKnob Tryz.prog.godebug = none:=by kernel_rfl
set_option maxRecDepth 100000
theorem lifted (os : Os) (started : os.Started) (H : Type) (enc : TypeId × Value → H) :
 ReturnsInHanded {} Tryz.checked os 9 .any (Rows.insertopAloneSpec.pre6 enc Tryz.prog Tryz.f9 Rows.insertopAloneRow.domain false) (Rows.insertopAloneSpec.post enc Tryz.prog Tryz.f9 false true false false):=by
 refine returnsInHanded_of_change (C:=Tryz.checked) own started (by kernel_rfl) Tryz.func9
  (ChangeSpec.witness6 (enc:=enc) (C:=Tryz.checked) false ⟨#[],#[.int .u8 0,.slice none 0 0,.int .i64 0],[]⟩ 8 (by kernel_rfl) (by kernel_rfl) (by kernel_rfl) (by kernel_rfl)) ?_
 intro W base args ds gs before hval hW _ _
 exact rowCalls tab_ok 5 (congrArg Array.toList Tryz.params9) (by kernel_rfl) (by kernel_rfl) rfl (fun ds hds=>by
  have hds : ds.length = 3:=hds
  match ds,hds with
  | [_,_,_],_=>rfl) rfl Tryz.underlying4 specInsertopAlone W base args ds gs before hval hW
theorem k0 : (Rows.insertopAloneRow.wf (OpenSpec.ofChange Rows.insertopAloneSpec)) = true:=by kernel_rfl
theorem k3 : (Tryz.f9.params.all (Tryz.prog.readableRec ·)) = true:=by kernel_rfl
theorem k4 : (namedTie Tryz.prog Rows.insertopAloneRow.named Rows.insertopAloneSpec.vars) = true:=by kernel_rfl
theorem k5 : ((Rows.insertopAloneRow.stops == [])) = true:=by kernel_rfl
theorem k7 : ((Rows.insertopAloneRow.knobs == [])) = true:=by kernel_rfl
theorem k9 : ((Rows.insertopAloneRow.inPlace == Tryz.prog.inPlace 9)) = true:=by kernel_rfl
theorem k10 : ((Rows.insertopAloneRow.unfollowed == Tryz.prog.unfollowed 9)) = true:=by kernel_rfl
theorem k11 : ((Rows.insertopAloneRow.recurses == Tryz.prog.recurses 9)) = true:=by kernel_rfl
theorem k12 : ((Rows.insertopAloneRow.named == Tryz.prog.varsNamed 9)) = true:=by kernel_rfl
theorem k13 : ((Rows.insertopAloneRow.maps == (Tryz.f9.params.toList ++ Rows.insertopAloneSpec.plain.varTypes Tryz.prog).any (Tryz.prog.mapsRec ·))) = true:=by kernel_rfl
theorem k14 : ((Rows.insertopAloneRow.ifaces == (Tryz.f9.params.toList ++ Rows.insertopAloneSpec.plain.varTypes Tryz.prog).any (Tryz.prog.ifacesRec ·))) = true:=by kernel_rfl
theorem k15 : ((Rows.insertopAloneRow.mapsOut == Tryz.prog.mapsAmong Tryz.f9.resultTypes.toList)) = true:=by kernel_rfl
theorem k16 : ((Rows.insertopAloneRow.loops == (Tryz.f9.params.toList ++ Rows.insertopAloneSpec.plain.varTypes Tryz.prog).any (Tryz.prog.loopsFrom ·))) = true:=by kernel_rfl
theorem k17 : ((Rows.insertopAloneRow.wideKeys == (Tryz.f9.params.toList ++ Rows.insertopAloneSpec.plain.varTypes Tryz.prog ++ Tryz.f9.resultTypes.toList).any (Tryz.prog.wideKeysFrom ·))) = true:=by kernel_rfl
theorem k18 : (Rows.insertopAloneSpec.vars.all (Tryz.prog.varReadable ·)) = true:=by kernel_rfl
theorem k19 : (Tryz.f9.resultTypes.all (fun t=>Tryz.prog.readableRec t && decide (t < Tryz.prog.types.size))) = true:=by kernel_rfl
theorem k20 : ((Rows.insertopAloneRow.ifacesOut == Tryz.f9.resultTypes.toList.any (Tryz.prog.ifacesRec ·))) = true:=by kernel_rfl
theorem k21 : ((Rows.insertopAloneRow.loopsOut == Tryz.f9.resultTypes.toList.any (Tryz.prog.loopsFrom ·))) = true:=by kernel_rfl
theorem k22 : ((Rows.insertopAloneRow.plainKeys == Tryz.prog.plainKeys)) = true:=by kernel_rfl
theorem k23 : (Rows.insertopAloneRow.shortTexts.isNone) = true:=by kernel_rfl
theorem k26 : ((Rows.insertopAloneRow.lifted == Tryz.prog.liftsFinal)) = true:=by rw [Facts.lifts];kernel_rfl
theorem k27 : ((Tryz.prog.make == some Rows.insertopAloneRow.make)) = true:=by rw [Facts.made];kernel_rfl
theorem k28 : ((Rows.insertopAloneRow.kinds == (if Rows.insertopAloneRow.domain.isEmpty then [] else Tryz.f9.params.toList.map fun t=>match Tryz.prog.underlying t with | some (.int k)=>some k | _=>none))) = true:=by kernel_rfl
theorem k29 : ((Rows.insertopAloneRow.pinned == Rows.insertopAloneRow.pinnedBy)) = true:=by kernel_rfl
theorem k30 : ((Rows.insertopAloneRow.veiled == (Tryz.f9.params.toList ++ Rows.insertopAloneSpec.plain.varTypes Tryz.prog ++ Tryz.f9.resultTypes.toList).any (Tryz.prog.veiledRec ·))) = true:=by kernel_rfl
theorem k31 : (Rows.insertopAloneRow.veiledFits Tryz.prog Tryz.f9.params.toList (Tryz.f9.params.toList ++ Rows.insertopAloneSpec.plain.varTypes Tryz.prog ++ Tryz.f9.resultTypes.toList)) = true:=by kernel_rfl
theorem joined : joinedFacts Tryz.prog 9 Tryz.f9 Rows.insertopAloneSpec Rows.insertopAloneRow = true:=(Facts.and2 (Facts.and2 (Facts.and2 (Facts.and2 (Facts.and2 (Facts.and2 (Facts.and2 (Facts.and2 (Facts.and2 (Facts.and2 (Facts.and2 (Facts.and2 (Facts.and2 (Facts.and2 (Facts.and2 (Facts.and2 (Facts.and2 (Facts.and2 (Facts.and2 (Facts.and2 (Facts.and2 (Facts.and2 (Facts.and2 (Facts.and2 (Facts.and2 (Facts.and2 (Facts.and2 (Facts.and2 (Facts.and2 (Facts.and2 (Facts.and2 k0 Facts.laid) Facts.mapsR) k3) k4) k5) Facts.st) k7) Facts.stk) k9) k10) k11) k12) k13) k14) k15) k16) k17) k18) k19) k20) k21) k22) k23) Facts.heard) Facts.enter) k26) k27) k28) k29) k30) k31)
theorem named : Tryz.prog.funcNamed Rows.insertopAloneRow.func = some 9:=by kernel_rfl
theorem inst : Func.isInstance Tryz.prog Tryz.f9 Rows.insertopAloneRow.origin Rows.insertopAloneRow.targs:=of_decide_eq_true (by kernel_rfl)
theorem wrap : Func.isWrapper Tryz.prog Tryz.f9 Rows.insertopAloneRow.wrapper Rows.insertopAloneRow.mainSum:=by unfold Func.isWrapper;first | (rw [if_pos (by decide +kernel)];kernel_rfl) | (rw [if_neg (by decide +kernel)];exact ⟨rfl,rfl⟩)
theorem over : Rows.insertopAloneRow.holds Tryz.pinned (OpenSpec.ofChange Rows.insertopAloneSpec):=
 OpenClaim.holds_of_wide 9 Tryz.f9 rfl rfl rfl rfl rfl rfl rfl ⟨rfl,rfl,rfl,rfl,rfl⟩ rfl rfl rfl rfl rfl named Tryz.func9 joined inst wrap
  (fun os started H enc _=>lifted os started H enc)
theorem proved : Rows.InsertopAloneSaid:=
 over
#print axioms proved
end Go.Proofs.YtcffiehcdadimaaGreat.insertopAlone
