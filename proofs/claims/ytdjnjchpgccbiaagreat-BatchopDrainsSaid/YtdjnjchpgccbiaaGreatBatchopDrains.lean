/- For every input, BatchopDrains returns true, and what its arguments read is what they read before. No condition. -/
import Derived.Test.YtdjnjchpgccbiaaGreatFacts
import Derived.Test.YtdjnjchpgccbiaaGreatN17
namespace Go.Proofs.YtdjnjchpgccbiaaGreat.batchopDrains
open Abs
open Go.ChangeShapes Go.WideShapes Go.ChangeAt Go.RowKit
set_option linter.unusedVariables false
theorem own : ownKnob Tryz.prog.godebug = none:=by kernel_rfl
set_option maxRecDepth 100000
theorem lifted (os : Os) (started : os.Started) (H : Type) (enc : TypeId × Value → H) :
 ReturnsInHanded {} Tryz.checked os 5 .any (Rows.batchopDrainsSpec.pre6 enc Tryz.prog Tryz.f5 Rows.batchopDrainsRow.domain false) (Rows.batchopDrainsSpec.post enc Tryz.prog Tryz.f5 false true false false):=by
 refine returnsInHanded_of_change (C:=Tryz.checked) own started (by kernel_rfl) Tryz.func5
  (ChangeSpec.witness6 (enc:=enc) (C:=Tryz.checked) false ⟨#[],#[.int .u8 0,.slice none 0 0],[]⟩ 8 (by kernel_rfl) (by kernel_rfl) (by kernel_rfl) (by kernel_rfl)) ?_
 intro W base args ds gs before hval hW _ _
 exact rowCalls tab_ok 5 (congrArg Array.toList Tryz.params5) (by kernel_rfl) (by kernel_rfl) rfl (fun ds hds=>by
  have hds : ds.length = 2:=hds
  match ds,hds with
  | [_,_],_=>rfl) rfl Tryz.underlying4 specBatchopDrains W base args ds gs before hval hW
theorem k0 : (Rows.batchopDrainsRow.wf (OpenSpec.ofChange Rows.batchopDrainsSpec)) = true:=by kernel_rfl
theorem k3 : (Tryz.f5.params.all (Tryz.prog.readableRec ·)) = true:=by kernel_rfl
theorem k4 : (namedTie Tryz.prog Rows.batchopDrainsRow.named Rows.batchopDrainsSpec.vars) = true:=by kernel_rfl
theorem k5 : ((Rows.batchopDrainsRow.stops == [])) = true:=by kernel_rfl
theorem k7 : ((Rows.batchopDrainsRow.knobs == [])) = true:=by kernel_rfl
theorem k9 : ((Rows.batchopDrainsRow.inPlace == Tryz.prog.inPlace 5)) = true:=by kernel_rfl
theorem k10 : ((Rows.batchopDrainsRow.unfollowed == Tryz.prog.unfollowed 5)) = true:=by kernel_rfl
theorem k11 : ((Rows.batchopDrainsRow.recurses == Tryz.prog.recurses 5)) = true:=by kernel_rfl
theorem k12 : ((Rows.batchopDrainsRow.named == Tryz.prog.varsNamed 5)) = true:=by kernel_rfl
theorem k13 : ((Rows.batchopDrainsRow.maps == (Tryz.f5.params.toList ++ Rows.batchopDrainsSpec.plain.varTypes Tryz.prog).any (Tryz.prog.mapsRec ·))) = true:=by kernel_rfl
theorem k14 : ((Rows.batchopDrainsRow.ifaces == (Tryz.f5.params.toList ++ Rows.batchopDrainsSpec.plain.varTypes Tryz.prog).any (Tryz.prog.ifacesRec ·))) = true:=by kernel_rfl
theorem k15 : ((Rows.batchopDrainsRow.mapsOut == Tryz.prog.mapsAmong Tryz.f5.resultTypes.toList)) = true:=by kernel_rfl
theorem k16 : ((Rows.batchopDrainsRow.loops == (Tryz.f5.params.toList ++ Rows.batchopDrainsSpec.plain.varTypes Tryz.prog).any (Tryz.prog.loopsFrom ·))) = true:=by kernel_rfl
theorem k17 : ((Rows.batchopDrainsRow.wideKeys == (Tryz.f5.params.toList ++ Rows.batchopDrainsSpec.plain.varTypes Tryz.prog ++ Tryz.f5.resultTypes.toList).any (Tryz.prog.wideKeysFrom ·))) = true:=by kernel_rfl
theorem k18 : (Rows.batchopDrainsSpec.vars.all (Tryz.prog.varReadable ·)) = true:=by kernel_rfl
theorem k19 : (Tryz.f5.resultTypes.all (fun t=>Tryz.prog.readableRec t && decide (t < Tryz.prog.types.size))) = true:=by kernel_rfl
theorem k20 : ((Rows.batchopDrainsRow.ifacesOut == Tryz.f5.resultTypes.toList.any (Tryz.prog.ifacesRec ·))) = true:=by kernel_rfl
theorem k21 : ((Rows.batchopDrainsRow.loopsOut == Tryz.f5.resultTypes.toList.any (Tryz.prog.loopsFrom ·))) = true:=by kernel_rfl
theorem k22 : ((Rows.batchopDrainsRow.plainKeys == Tryz.prog.plainKeys)) = true:=by kernel_rfl
theorem k23 : (Rows.batchopDrainsRow.shortTexts.isNone) = true:=by kernel_rfl
theorem k26 : ((Rows.batchopDrainsRow.lifted == Tryz.prog.liftsFinal)) = true:=by rw [Facts.lifts];kernel_rfl
theorem k27 : ((Tryz.prog.make == some Rows.batchopDrainsRow.make)) = true:=by rw [Facts.made];kernel_rfl
theorem k28 : ((Rows.batchopDrainsRow.kinds == (if Rows.batchopDrainsRow.domain.isEmpty then [] else Tryz.f5.params.toList.map fun t=>match Tryz.prog.underlying t with | some (.int k)=>some k | _=>none))) = true:=by kernel_rfl
theorem k29 : ((Rows.batchopDrainsRow.pinned == Rows.batchopDrainsRow.pinnedBy)) = true:=by kernel_rfl
theorem k30 : ((Rows.batchopDrainsRow.veiled == (Tryz.f5.params.toList ++ Rows.batchopDrainsSpec.plain.varTypes Tryz.prog ++ Tryz.f5.resultTypes.toList).any (Tryz.prog.veiledRec ·))) = true:=by kernel_rfl
theorem k31 : (Rows.batchopDrainsRow.veiledFits Tryz.prog Tryz.f5.params.toList (Tryz.f5.params.toList ++ Rows.batchopDrainsSpec.plain.varTypes Tryz.prog ++ Tryz.f5.resultTypes.toList)) = true:=by kernel_rfl
theorem joined : joinedFacts Tryz.prog 5 Tryz.f5 Rows.batchopDrainsSpec Rows.batchopDrainsRow = true:=(Facts.and2 (Facts.and2 (Facts.and2 (Facts.and2 (Facts.and2 (Facts.and2 (Facts.and2 (Facts.and2 (Facts.and2 (Facts.and2 (Facts.and2 (Facts.and2 (Facts.and2 (Facts.and2 (Facts.and2 (Facts.and2 (Facts.and2 (Facts.and2 (Facts.and2 (Facts.and2 (Facts.and2 (Facts.and2 (Facts.and2 (Facts.and2 (Facts.and2 (Facts.and2 (Facts.and2 (Facts.and2 (Facts.and2 (Facts.and2 (Facts.and2 k0 Facts.laid) Facts.mapsR) k3) k4) k5) Facts.st) k7) Facts.stk) k9) k10) k11) k12) k13) k14) k15) k16) k17) k18) k19) k20) k21) k22) k23) Facts.heard) Facts.enter) k26) k27) k28) k29) k30) k31)
theorem named : Tryz.prog.funcNamed Rows.batchopDrainsRow.func = some 5:=by kernel_rfl
theorem inst : Func.isInstance Tryz.prog Tryz.f5 Rows.batchopDrainsRow.origin Rows.batchopDrainsRow.targs:=of_decide_eq_true (by kernel_rfl)
theorem wrap : Func.isWrapper Tryz.prog Tryz.f5 Rows.batchopDrainsRow.wrapper Rows.batchopDrainsRow.mainSum:=by unfold Func.isWrapper;first | (rw [if_pos (by decide +kernel)];kernel_rfl) | (rw [if_neg (by decide +kernel)];exact ⟨rfl,rfl⟩)
theorem over : Rows.batchopDrainsRow.holds Tryz.pinned (OpenSpec.ofChange Rows.batchopDrainsSpec):=
 OpenClaim.holds_of_wide 5 Tryz.f5 rfl rfl rfl rfl rfl rfl rfl ⟨rfl,rfl,rfl,rfl,rfl⟩ rfl rfl rfl rfl rfl named Tryz.func5 joined inst wrap
  (fun os started H enc _=>lifted os started H enc)
theorem proved : Rows.BatchopDrainsSaid:=
 over
#print axioms proved
end Go.Proofs.YtdjnjchpgccbiaaGreat.batchopDrains
