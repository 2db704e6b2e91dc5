/- For every input, InsertopOrder returns true, and what its arguments read is what they read before. No condition. -/
import Derived.Test.YtcffiehcdadimaaGreatFacts
import Derived.Test.YtcffiehcdadimaaGreatMJ
namespace Go.Proofs.YtcffiehcdadimaaGreat.insertopOrder
open Abs
open Go.ChangeShapes Go.WideShapes Go.ChangeAt Go.RowKit
set_option linter.unusedVariables false
theorem own : ownKnob Tryz.prog.godebug = none:=by kernel_rfl
set_option maxRecDepth 100000
theorem lifted (os : Os) (started : os.Started) (H : Type) (enc : TypeId × Value → H) :
 ReturnsInHanded {} Tryz.checked os 12 .any (Rows.insertopOrderSpec.pre6 enc Tryz.prog Tryz.f12 Rows.insertopOrderRow.domain false) (Rows.insertopOrderSpec.post enc Tryz.prog Tryz.f12 false true false false):=by
 refine returnsInHanded_of_change (C:=Tryz.checked) own started (by kernel_rfl) Tryz.func12
  (ChangeSpec.witness6 (enc:=enc) (C:=Tryz.checked) false ⟨#[],#[.int .u8 0,.slice none 0 0,.slice none 0 0,.slice none 0 0],[]⟩ 8 (by kernel_rfl) (by kernel_rfl) (by kernel_rfl) (by kernel_rfl)) ?_
 intro W base args ds gs before hval hW _ _
 exact rowCalls tab_ok 5 (congrArg Array.toList Tryz.params12) (by kernel_rfl) (by kernel_rfl) rfl (fun ds hds=>by
  have hds : ds.length = 4:=hds
  match ds,hds with
  | [_,_,_,_],_=>rfl) rfl Tryz.underlying4 specInsertopOrder W base args ds gs before hval hW
theorem k0 : (Rows.insertopOrderRow.wf (OpenSpec.ofChange Rows.insertopOrderSpec)) = true:=by kernel_rfl
theorem k3 : (Tryz.f12.params.all (Tryz.prog.readableRec ·)) = true:=by kernel_rfl
theorem k4 : (namedTie Tryz.prog Rows.insertopOrderRow.named Rows.insertopOrderSpec.vars) = true:=by kernel_rfl
theorem k5 : ((Rows.insertopOrderRow.stops == [])) = true:=by kernel_rfl
theorem k7 : ((Rows.insertopOrderRow.knobs == [])) = true:=by kernel_rfl
theorem k9 : ((Rows.insertopOrderRow.inPlace == Tryz.prog.inPlace 12)) = true:=by kernel_rfl
theorem k10 : ((Rows.insertopOrderRow.unfollowed == Tryz.prog.unfollowed 12)) = true:=by kernel_rfl
theorem k11 : ((Rows.insertopOrderRow.recurses == Tryz.prog.recurses 12)) = true:=by kernel_rfl
theorem k12 : ((Rows.insertopOrderRow.named == Tryz.prog.varsNamed 12)) = true:=by kernel_rfl
theorem k13 : ((Rows.insertopOrderRow.maps == (Tryz.f12.params.toList ++ Rows.insertopOrderSpec.plain.varTypes Tryz.prog).any (Tryz.prog.mapsRec ·))) = true:=by kernel_rfl
theorem k14 : ((Rows.insertopOrderRow.ifaces == (Tryz.f12.params.toList ++ Rows.insertopOrderSpec.plain.varTypes Tryz.prog).any (Tryz.prog.ifacesRec ·))) = true:=by kernel_rfl
theorem k15 : ((Rows.insertopOrderRow.mapsOut == Tryz.prog.mapsAmong Tryz.f12.resultTypes.toList)) = true:=by kernel_rfl
theorem k16 : ((Rows.insertopOrderRow.loops == (Tryz.f12.params.toList ++ Rows.insertopOrderSpec.plain.varTypes Tryz.prog).any (Tryz.prog.loopsFrom ·))) = true:=by kernel_rfl
theorem k17 : ((Rows.insertopOrderRow.wideKeys == (Tryz.f12.params.toList ++ Rows.insertopOrderSpec.plain.varTypes Tryz.prog ++ Tryz.f12.resultTypes.toList).any (Tryz.prog.wideKeysFrom ·))) = true:=by kernel_rfl
theorem k18 : (Rows.insertopOrderSpec.vars.all (Tryz.prog.varReadable ·)) = true:=by kernel_rfl
theorem k19 : (Tryz.f12.resultTypes.all (fun t=>Tryz.prog.readableRec t && decide (t < Tryz.prog.types.size))) = true:=by kernel_rfl
theorem k20 : ((Rows.insertopOrderRow.ifacesOut == Tryz.f12.resultTypes.toList.any (Tryz.prog.ifacesRec ·))) = true:=by kernel_rfl
theorem k21 : ((Rows.insertopOrderRow.loopsOut == Tryz.f12.resultTypes.toList.any (Tryz.prog.loopsFrom ·))) = true:=by kernel_rfl
theorem k22 : ((Rows.insertopOrderRow.plainKeys == Tryz.prog.plainKeys)) = true:=by kernel_rfl
theorem k23 : (Rows.insertopOrderRow.shortTexts.isNone) = true:=by kernel_rfl
theorem k26 : ((Rows.insertopOrderRow.lifted == Tryz.prog.liftsFinal)) = true:=by rw [Facts.lifts];kernel_rfl
theorem k27 : ((Tryz.prog.make == some Rows.insertopOrderRow.make)) = true:=by rw [Facts.made];kernel_rfl
theorem k28 : ((Rows.insertopOrderRow.kinds == (if Rows.insertopOrderRow.domain.isEmpty then [] else Tryz.f12.params.toList.map fun t=>match Tryz.prog.underlying t with | some (.int k)=>some k | _=>none))) = true:=by kernel_rfl
theorem k29 : ((Rows.insertopOrderRow.pinned == Rows.insertopOrderRow.pinnedBy)) = true:=by kernel_rfl
theorem k30 : ((Rows.insertopOrderRow.veiled == (Tryz.f12.params.toList ++ Rows.insertopOrderSpec.plain.varTypes Tryz.prog ++ Tryz.f12.resultTypes.toList).any (Tryz.prog.veiledRec ·))) = true:=by kernel_rfl
theorem k31 : (Rows.insertopOrderRow.veiledFits Tryz.prog Tryz.f12.params.toList (Tryz.f12.params.toList ++ Rows.insertopOrderSpec.plain.varTypes Tryz.prog ++ Tryz.f12.resultTypes.toList)) = true:=by kernel_rfl
theorem joined : joinedFacts Tryz.prog 12 Tryz.f12 Rows.insertopOrderSpec Rows.insertopOrderRow = true:=(Facts.and2 (Facts.and2 (Facts.and2 (Facts.and2 (Facts.and2 (Facts.and2 (Facts.and2 (Facts.and2 (Facts.and2 (Facts.and2 (Facts.and2 (Facts.and2 (Facts.and2 (Facts.and2 (Facts.and2 (Facts.and2 (Facts.and2 (Facts.and2 (Facts.and2 (Facts.and2 (Facts.and2 (Facts.and2 (Facts.and2 (Facts.and2 (Facts.and2 (Facts.and2 (Facts.and2 (Facts.and2 (Facts.and2 (Facts.and2 (Facts.and2 k0 Facts.laid) Facts.mapsR) k3) k4) k5) Facts.st) k7) Facts.stk) k9) k10) k11) k12) k13) k14) k15) k16) k17) k18) k19) k20) k21) k22) k23) Facts.heard) Facts.enter) k26) k27) k28) k29) k30) k31)
theorem named : Tryz.prog.funcNamed Rows.insertopOrderRow.func = some 12:=by kernel_rfl
theorem inst : Func.isInstance Tryz.prog Tryz.f12 Rows.insertopOrderRow.origin Rows.insertopOrderRow.targs:=of_decide_eq_true (by kernel_rfl)
theorem wrap : Func.isWrapper Tryz.prog Tryz.f12 Rows.insertopOrderRow.wrapper Rows.insertopOrderRow.mainSum:=by unfold Func.isWrapper;first | (rw [if_pos (by decide +kernel)];kernel_rfl) | (rw [if_neg (by decide +kernel)];exact ⟨rfl,rfl⟩)
theorem over : Rows.insertopOrderRow.holds Tryz.pinned (OpenSpec.ofChange Rows.insertopOrderSpec):=
 OpenClaim.holds_of_wide 12 Tryz.f12 rfl rfl rfl rfl rfl rfl rfl ⟨rfl,rfl,rfl,rfl,rfl⟩ rfl rfl rfl rfl rfl named Tryz.func12 joined inst wrap
  (fun os started H enc _=>lifted os started H enc)
theorem proved : Rows.InsertopOrderSaid:=
 over
#print axioms proved
end Go.Proofs.YtcffiehcdadimaaGreat.insertopOrder
