/- For every input, InsertopTogether returns true, and what its arguments read is what they read before. No condition. -/
import Derived.Test.YtcffiehcdadimaaGreatFacts
import Derived.Test.YtcffiehcdadimaaGreatMI
namespace Go.Proofs.YtcffiehcdadimaaGreat.insertopTogether
open Abs
open Go.ChangeShapes Go.WideShapes Go.ChangeAt Go.RowKit
set_option linter.unusedVariables false
theorem own : ownKnob Tryz.prog.godebug = none:=by kernel_rfl
set_option maxRecDepth 100000
theorem lifted (os : Os) (started : os.Started) (H : Type) (enc : TypeId × Value → H) :
 ReturnsInHanded {} Tryz.checked os 11 .any (Rows.insertopTogetherSpec.pre6 enc Tryz.prog Tryz.f11 Rows.insertopTogetherRow.domain false) (Rows.insertopTogetherSpec.post enc Tryz.prog Tryz.f11 false true false false):=by
 refine returnsInHanded_of_change (C:=Tryz.checked) own started (by kernel_rfl) Tryz.func11
  (ChangeSpec.witness6 (enc:=enc) (C:=Tryz.checked) false ⟨#[],#[.int .u8 0,.slice none 0 0,.slice none 0 0,.slice none 0 0],[]⟩ 8 (by kernel_rfl) (by kernel_rfl) (by kernel_rfl) (by kernel_rfl)) ?_
 intro W base args ds gs before hval hW _ _
 exact rowCalls tab_ok 5 (congrArg Array.toList Tryz.params11) (by kernel_rfl) (by kernel_rfl) rfl (fun ds hds=>by
  have hds : ds.length = 4:=hds
  match ds,hds with
  | [_,_,_,_],_=>rfl) rfl Tryz.underlying4 specInsertopTogether W base args ds gs before hval hW
theorem k0 : (Rows.insertopTogetherRow.wf (OpenSpec.ofChange Rows.insertopTogetherSpec)) = true:=by kernel_rfl
theorem k3 : (Tryz.f11.params.all (Tryz.prog.readableRec ·)) = true:=by kernel_rfl
theorem k4 : (namedTie Tryz.prog Rows.insertopTogetherRow.named Rows.insertopTogetherSpec.vars) = true:=by kernel_rfl
theorem k5 : ((Rows.insertopTogetherRow.stops == [])) = true:=by kernel_rfl
theorem k7 : ((Rows.insertopTogetherRow.knobs == [])) = true:=by kernel_rfl
theorem k9 : ((Rows.insertopTogetherRow.inPlace == Tryz.prog.inPlace 11)) = true:=by kernel_rfl
theorem k10 : ((Rows.insertopTogetherRow.unfollowed == Tryz.prog.unfollowed 11)) = true:=by kernel_rfl
theorem k11 : ((Rows.insertopTogetherRow.recurses == Tryz.prog.recurses 11)) = true:=by kernel_rfl
theorem k12 : ((Rows.insertopTogetherRow.named == Tryz.prog.varsNamed 11)) = true:=by kernel_rfl
theorem k13 : ((Rows.insertopTogetherRow.maps == (Tryz.f11.params.toList ++ Rows.insertopTogetherSpec.plain.varTypes Tryz.prog).any (Tryz.prog.mapsRec ·))) = true:=by kernel_rfl
theorem k14 : ((Rows.insertopTogetherRow.ifaces == (Tryz.f11.params.toList ++ Rows.insertopTogetherSpec.plain.varTypes Tryz.prog).any (Tryz.prog.ifacesRec ·))) = true:=by kernel_rfl
theorem k15 : ((Rows.insertopTogetherRow.mapsOut == Tryz.prog.mapsAmong Tryz.f11.resultTypes.toList)) = true:=by kernel_rfl
theorem k16 : ((Rows.insertopTogetherRow.loops == (Tryz.f11.params.toList ++ Rows.insertopTogetherSpec.plain.varTypes Tryz.prog).any (Tryz.prog.loopsFrom ·))) = true:=by kernel_rfl
theorem k17 : ((Rows.insertopTogetherRow.wideKeys == (Tryz.f11.params.toList ++ Rows.insertopTogetherSpec.plain.varTypes Tryz.prog ++ Tryz.f11.resultTypes.toList).any (Tryz.prog.wideKeysFrom ·))) = true:=by kernel_rfl
theorem k18 : (Rows.insertopTogetherSpec.vars.all (Tryz.prog.varReadable ·)) = true:=by kernel_rfl
theorem k19 : (Tryz.f11.resultTypes.all (fun t=>Tryz.prog.readableRec t && decide (t < Tryz.prog.types.size))) = true:=by kernel_rfl
theorem k20 : ((Rows.insertopTogetherRow.ifacesOut == Tryz.f11.resultTypes.toList.any (Tryz.prog.ifacesRec ·))) = true:=by kernel_rfl
theorem k21 : ((Rows.insertopTogetherRow.loopsOut == Tryz.f11.resultTypes.toList.any (Tryz.prog.loopsFrom ·))) = true:=by kernel_rfl
theorem k22 : ((Rows.insertopTogetherRow.plainKeys == Tryz.prog.plainKeys)) = true:=by kernel_rfl
theorem k23 : (Rows.insertopTogetherRow.shortTexts.isNone) = true:=by kernel_rfl
theorem k26 : ((Rows.insertopTogetherRow.lifted == Tryz.prog.liftsFinal)) = true:=by rw [Facts.lifts];kernel_rfl
theorem k27 : ((Tryz.prog.make == some Rows.insertopTogetherRow.make)) = true:=by rw [Facts.made];kernel_rfl
theorem k28 : ((Rows.insertopTogetherRow.kinds == (if Rows.insertopTogetherRow.domain.isEmpty then [] else Tryz.f11.params.toList.map fun t=>match Tryz.prog.underlying t with | some (.int k)=>some k | _=>none))) = true:=by kernel_rfl
theorem k29 : ((Rows.insertopTogetherRow.pinned == Rows.insertopTogetherRow.pinnedBy)) = true:=by kernel_rfl
theorem k30 : ((Rows.insertopTogetherRow.veiled == (Tryz.f11.params.toList ++ Rows.insertopTogetherSpec.plain.varTypes Tryz.prog ++ Tryz.f11.resultTypes.toList).any (Tryz.prog.veiledRec ·))) = true:=by kernel_rfl
theorem k31 : (Rows.insertopTogetherRow.veiledFits Tryz.prog Tryz.f11.params.toList (Tryz.f11.params.toList ++ Rows.insertopTogetherSpec.plain.varTypes Tryz.prog ++ Tryz.f11.resultTypes.toList)) = true:=by kernel_rfl
theorem joined : joinedFacts Tryz.prog 11 Tryz.f11 Rows.insertopTogetherSpec Rows.insertopTogetherRow = true:=(Facts.and2 (Facts.and2 (Facts.and2 (Facts.and2 (Facts.and2 (Facts.and2 (Facts.and2 (Facts.and2 (Facts.and2 (Facts.and2 (Facts.and2 (Facts.and2 (Facts.and2 (Facts.and2 (Facts.and2 (Facts.and2 (Facts.and2 (Facts.and2 (Facts.and2 (Facts.and2 (Facts.and2 (Facts.and2 (Facts.and2 (Facts.and2 (Facts.and2 (Facts.and2 (Facts.and2 (Facts.and2 (Facts.and2 (Facts.and2 (Facts.and2 k0 Facts.laid) Facts.mapsR) k3) k4) k5) Facts.st) k7) Facts.stk) k9) k10) k11) k12) k13) k14) k15) k16) k17) k18) k19) k20) k21) k22) k23) Facts.heard) Facts.enter) k26) k27) k28) k29) k30) k31)
theorem named : Tryz.prog.funcNamed Rows.insertopTogetherRow.func = some 11:=by kernel_rfl
theorem inst : Func.isInstance Tryz.prog Tryz.f11 Rows.insertopTogetherRow.origin Rows.insertopTogetherRow.targs:=of_decide_eq_true (by kernel_rfl)
theorem wrap : Func.isWrapper Tryz.prog Tryz.f11 Rows.insertopTogetherRow.wrapper Rows.insertopTogetherRow.mainSum:=by unfold Func.isWrapper;first | (rw [if_pos (by decide +kernel)];kernel_rfl) | (rw [if_neg (by decide +kernel)];exact ⟨rfl,rfl⟩)
theorem over : Rows.insertopTogetherRow.holds Tryz.pinned (OpenSpec.ofChange Rows.insertopTogetherSpec):=
 OpenClaim.holds_of_wide 11 Tryz.f11 rfl rfl rfl rfl rfl rfl rfl ⟨rfl,rfl,rfl,rfl,rfl⟩ rfl rfl rfl rfl rfl named Tryz.func11 joined inst wrap
  (fun os started H enc _=>lifted os started H enc)
theorem proved : Rows.InsertopTogetherSaid:=
 over
#print axioms proved
end Go.Proofs.YtcffiehcdadimaaGreat.insertopTogether
