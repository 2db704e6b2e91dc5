/- For every input, CpqUnknown returns true, and what its arguments read is what they read before. No condition. -/
import Derived.Test.YtdjnjchpgccbiaaGreatFacts
import Derived.Test.YtdjnjchpgccbiaaGreatQD
namespace Go.Proofs.YtdjnjchpgccbiaaGreat.cpqUnknown
open Abs
open Go.ChangeShapes Go.WideShapes Go.ChangeAt Go.RowKit
set_option linter.unusedVariables false
theorem own : ownKnob Tryz.prog.godebug = none:=by kernel_rfl
set_option maxRecDepth 100000
theorem lifted (os : Os) (started : os.Started) (H : Type) (enc : TypeId × Value → H) :
 ReturnsInHanded {} Tryz.checked os 3 .any (Rows.cpqUnknownSpec.pre6 enc Tryz.prog Tryz.f3 Rows.cpqUnknownRow.domain false) (Rows.cpqUnknownSpec.post enc Tryz.prog Tryz.f3 false true false false):=by
 refine returnsInHanded_of_change (C:=Tryz.checked) own started (by kernel_rfl) Tryz.func3
  (ChangeSpec.witness6 (enc:=enc) (C:=Tryz.checked) false ⟨#[],#[.int .u8 0,.slice none 0 0,.agg #[.int .i64 0,.int .i64 0,.int .i64 0,.int .i64 0,.int .i64 0]],[]⟩ 8 (by kernel_rfl) (by kernel_rfl) (by kernel_rfl) (by kernel_rfl)) ?_
 intro W base args ds gs before hval hW _ _
 exact ZnR tab_ok 5 (congrArg Array.toList Tryz.params3) (by kernel_rfl) (by kernel_rfl) rfl (fun ds hds=>by
  have hds : ds.length = 3:=hds
  match ds,hds with
  | [_,_,_],_=>rfl) rfl Tryz.underlying4 ZeB W base args ds gs before hval hW
theorem k0 : (Rows.cpqUnknownRow.wf (OpenSpec.ofChange Rows.cpqUnknownSpec)) = true:=by kernel_rfl
theorem k3 : (Tryz.f3.params.all (Tryz.prog.readableRec ·)) = true:=by kernel_rfl
theorem k4 : (namedTie Tryz.prog Rows.cpqUnknownRow.named Rows.cpqUnknownSpec.vars) = true:=by kernel_rfl
theorem k5 : ((Rows.cpqUnknownRow.stops == [])) = true:=by kernel_rfl
theorem k7 : ((Rows.cpqUnknownRow.knobs == [])) = true:=by kernel_rfl
theorem k9 : ((Rows.cpqUnknownRow.inPlace == Tryz.prog.inPlace 3)) = true:=by kernel_rfl
theorem k10 : ((Rows.cpqUnknownRow.unfollowed == Tryz.prog.unfollowed 3)) = true:=by kernel_rfl
theorem k11 : ((Rows.cpqUnknownRow.recurses == Tryz.prog.recurses 3)) = true:=by kernel_rfl
theorem k12 : ((Rows.cpqUnknownRow.named == Tryz.prog.varsNamed 3)) = true:=by kernel_rfl
theorem k13 : ((Rows.cpqUnknownRow.maps == (Tryz.f3.params.toList ++ Rows.cpqUnknownSpec.plain.varTypes Tryz.prog).any (Tryz.prog.mapsRec ·))) = true:=by kernel_rfl
theorem k14 : ((Rows.cpqUnknownRow.ifaces == (Tryz.f3.params.toList ++ Rows.cpqUnknownSpec.plain.varTypes Tryz.prog).any (Tryz.prog.ifacesRec ·))) = true:=by kernel_rfl
theorem k15 : ((Rows.cpqUnknownRow.mapsOut == Tryz.prog.mapsAmong Tryz.f3.resultTypes.toList)) = true:=by kernel_rfl
theorem k16 : ((Rows.cpqUnknownRow.loops == (Tryz.f3.params.toList ++ Rows.cpqUnknownSpec.plain.varTypes Tryz.prog).any (Tryz.prog.loopsFrom ·))) = true:=by kernel_rfl
theorem k17 : ((Rows.cpqUnknownRow.wideKeys == (Tryz.f3.params.toList ++ Rows.cpqUnknownSpec.plain.varTypes Tryz.prog ++ Tryz.f3.resultTypes.toList).any (Tryz.prog.wideKeysFrom ·))) = true:=by kernel_rfl
theorem k18 : (Rows.cpqUnknownSpec.vars.all (Tryz.prog.varReadable ·)) = true:=by kernel_rfl
theorem k19 : (Tryz.f3.resultTypes.all (fun t=>Tryz.prog.readableRec t && decide (t < Tryz.prog.types.size))) = true:=by kernel_rfl
theorem k20 : ((Rows.cpqUnknownRow.ifacesOut == Tryz.f3.resultTypes.toList.any (Tryz.prog.ifacesRec ·))) = true:=by kernel_rfl
theorem k21 : ((Rows.cpqUnknownRow.loopsOut == Tryz.f3.resultTypes.toList.any (Tryz.prog.loopsFrom ·))) = true:=by kernel_rfl
theorem k22 : ((Rows.cpqUnknownRow.plainKeys == Tryz.prog.plainKeys)) = true:=by kernel_rfl
theorem k23 : (Rows.cpqUnknownRow.shortTexts.isNone) = true:=by kernel_rfl
theorem k26 : ((Rows.cpqUnknownRow.lifted == Tryz.prog.liftsFinal)) = true:=by rw [Facts.lifts];kernel_rfl
theorem k27 : ((Tryz.prog.make == some Rows.cpqUnknownRow.make)) = true:=by rw [Facts.made];kernel_rfl
theorem k28 : ((Rows.cpqUnknownRow.kinds == (if Rows.cpqUnknownRow.domain.isEmpty then [] else Tryz.f3.params.toList.map fun t=>match Tryz.prog.underlying t with | some (.int k)=>some k | _=>none))) = true:=by kernel_rfl
theorem k29 : ((Rows.cpqUnknownRow.pinned == Rows.cpqUnknownRow.pinnedBy)) = true:=by kernel_rfl
theorem k30 : ((Rows.cpqUnknownRow.veiled == (Tryz.f3.params.toList ++ Rows.cpqUnknownSpec.plain.varTypes Tryz.prog ++ Tryz.f3.resultTypes.toList).any (Tryz.prog.veiledRec ·))) = true:=by kernel_rfl
theorem k31 : (Rows.cpqUnknownRow.veiledFits Tryz.prog Tryz.f3.params.toList (Tryz.f3.params.toList ++ Rows.cpqUnknownSpec.plain.varTypes Tryz.prog ++ Tryz.f3.resultTypes.toList)) = true:=by kernel_rfl
theorem ZsM : joinedFacts Tryz.prog 3 Tryz.f3 Rows.cpqUnknownSpec Rows.cpqUnknownRow = true:=(Facts.and2 (Facts.and2 (Facts.and2 (Facts.and2 (Facts.and2 (Facts.and2 (Facts.and2 (Facts.and2 (Facts.and2 (Facts.and2 (Facts.and2 (Facts.and2 (Facts.and2 (Facts.and2 (Facts.and2 (Facts.and2 (Facts.and2 (Facts.and2 (Facts.and2 (Facts.and2 (Facts.and2 (Facts.and2 (Facts.and2 (Facts.and2 (Facts.and2 (Facts.and2 (Facts.and2 (Facts.and2 (Facts.and2 (Facts.and2 (Facts.and2 k0 Facts.laid) Facts.mapsR) k3) k4) k5) Facts.st) k7) Facts.stk) k9) k10) k11) k12) k13) k14) k15) k16) k17) k18) k19) k20) k21) k22) k23) Facts.heard) Facts.enter) k26) k27) k28) k29) k30) k31)
theorem named : Tryz.prog.funcNamed Rows.cpqUnknownRow.func = some 3:=by kernel_rfl
theorem ZuR : Func.isInstance Tryz.prog Tryz.f3 Rows.cpqUnknownRow.origin Rows.cpqUnknownRow.targs:=of_decide_eq_true (by kernel_rfl)
theorem wrap : Func.isWrapper Tryz.prog Tryz.f3 Rows.cpqUnknownRow.wrapper Rows.cpqUnknownRow.mainSum:=by unfold Func.isWrapper;first | (rw [if_pos (by decide +kernel)];kernel_rfl) | (rw [if_neg (by decide +kernel)];exact ⟨rfl,rfl⟩)
theorem ZuP : Rows.cpqUnknownRow.holds Tryz.pinned (OpenSpec.ofChange Rows.cpqUnknownSpec):=
 OpenClaim.holds_of_wide 3 Tryz.f3 rfl rfl rfl rfl rfl rfl rfl ⟨rfl,rfl,rfl,rfl,rfl⟩ rfl rfl rfl rfl rfl named Tryz.func3 ZsM ZuR wrap
  (fun os started H enc _=>lifted os started H enc)
theorem proved : Rows.CpqUnknownSaid:=
 ZuP
#print axioms proved
end Go.Proofs.YtdjnjchpgccbiaaGreat.cpqUnknown
