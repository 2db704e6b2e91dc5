/- For every input, InsertopLocks returns true, and what its arguments read is what they read before. No condition. -/
import Derived.Test.YtcffiehcdadimaaGreatFacts
import Derived.Test.YtcffiehcdadimaaGreatMK
namespace Go.Proofs.YtcffiehcdadimaaGreat.insertopLocks
open Abs
open Go.ChangeShapes Go.WideShapes Go.ChangeAt Go.RowKit
set_option linter.unusedVariables false
theorem own : ownKnob Tryz.prog.godebug = none:=by kernel_rfl
set_option maxRecDepth 100000
theorem lifted (os : Os) (started : os.Started) (H : Type) (enc : TypeId × Value → H) :
 ReturnsInHanded {} Tryz.checked os 8 .any (Rows.insertopLocksSpec.pre6 enc Tryz.prog Tryz.f8 Rows.insertopLocksRow.domain false) (Rows.insertopLocksSpec.post enc Tryz.prog Tryz.f8 false true false false):=by
 refine returnsInHanded_of_change (C:=Tryz.checked) own started (by kernel_rfl) Tryz.func8
  (ChangeSpec.witness6 (enc:=enc) (C:=Tryz.checked) false ⟨#[],#[.int .u8 0,.slice none 0 0,.slice none 0 0,.slice none 0 0],[]⟩ 8 (by kernel_rfl) (by kernel_rfl) (by kernel_rfl) (by kernel_rfl)) ?_
 intro W base args ds gs before hval hW _ _
 exact rowCalls tab_ok 5 (congrArg Array.toList Tryz.params8) (by kernel_rfl) (by kernel_rfl) rfl (fun ds hds=>by
  have hds : ds.length = 4:=hds
  match ds,hds with
  | [_,_,_,_],_=>rfl) rfl Tryz.underlying4 specInsertopLocks W base args ds gs before hval hW
theorem k0 : (Rows.insertopLocksRow.wf (OpenSpec.ofChange Rows.insertopLocksSpec)) = true:=by kernel_rfl
theorem k3 : (Tryz.f8.params.all (Tryz.prog.readableRec ·)) = true:=by kernel_rfl
theorem k4 : (namedTie Tryz.prog Rows.insertopLocksRow.named Rows.insertopLocksSpec.vars) = true:=by kernel_rfl
theorem k5 : ((Rows.insertopLocksRow.stops == [])) = true:=by kernel_rfl
theorem k7 : ((Rows.insertopLocksRow.knobs == [])) = true:=by kernel_rfl
theorem k9 : ((Rows.insertopLocksRow.inPlace == Tryz.prog.inPlace 8)) = true:=by kernel_rfl
theorem k10 : ((Rows.insertopLocksRow.unfollowed == Tryz.prog.unfollowed 8)) = true:=by kernel_rfl
theorem k11 : ((Rows.insertopLocksRow.recurses == Tryz.prog.recurses 8)) = true:=by kernel_rfl
theorem k12 : ((Rows.insertopLocksRow.named == Tryz.prog.varsNamed 8)) = true:=by kernel_rfl
theorem k13 : ((Rows.insertopLocksRow.maps == (Tryz.f8.params.toList ++ Rows.insertopLocksSpec.plain.varTypes Tryz.prog).any (Tryz.prog.mapsRec ·))) = true:=by kernel_rfl
theorem k14 : ((Rows.insertopLocksRow.ifaces == (Tryz.f8.params.toList ++ Rows.insertopLocksSpec.plain.varTypes Tryz.prog).any (Tryz.prog.ifacesRec ·))) = true:=by kernel_rfl
theorem k15 : ((Rows.insertopLocksRow.mapsOut == Tryz.prog.mapsAmong Tryz.f8.resultTypes.toList)) = true:=by kernel_rfl
theorem k16 : ((Rows.insertopLocksRow.loops == (Tryz.f8.params.toList ++ Rows.insertopLocksSpec.plain.varTypes Tryz.prog).any (Tryz.prog.loopsFrom ·))) = true:=by kernel_rfl
theorem k17 : ((Rows.insertopLocksRow.wideKeys == (Tryz.f8.params.toList ++ Rows.insertopLocksSpec.plain.varTypes Tryz.prog ++ Tryz.f8.resultTypes.toList).any (Tryz.prog.wideKeysFrom ·))) = true:=by kernel_rfl
theorem k18 : (Rows.insertopLocksSpec.vars.all (Tryz.prog.varReadable ·)) = true:=by kernel_rfl
theorem k19 : (Tryz.f8.resultTypes.all (fun t=>Tryz.prog.readableRec t && decide (t < Tryz.prog.types.size))) = true:=by kernel_rfl
theorem k20 : ((Rows.insertopLocksRow.ifacesOut == Tryz.f8.resultTypes.toList.any (Tryz.prog.ifacesRec ·))) = true:=by kernel_rfl
theorem k21 : ((Rows.insertopLocksRow.loopsOut == Tryz.f8.resultTypes.toList.any (Tryz.prog.loopsFrom ·))) = true:=by kernel_rfl
theorem k22 : ((Rows.insertopLocksRow.plainKeys == Tryz.prog.plainKeys)) = true:=by kernel_rfl
theorem k23 : (Rows.insertopLocksRow.shortTexts.isNone) = true:=by kernel_rfl
theorem k26 : ((Rows.insertopLocksRow.lifted == Tryz.prog.liftsFinal)) = true:=by rw [Facts.lifts];kernel_rfl
theorem k27 : ((Tryz.prog.make == some Rows.insertopLocksRow.make)) = true:=by rw [Facts.made];kernel_rfl
theorem k28 : ((Rows.insertopLocksRow.kinds == (if Rows.insertopLocksRow.domain.isEmpty then [] else Tryz.f8.params.toList.map fun t=>match Tryz.prog.underlying t with | some (.int k)=>some k | _=>none))) = true:=by kernel_rfl
theorem k29 : ((Rows.insertopLocksRow.pinned == Rows.insertopLocksRow.pinnedBy)) = true:=by kernel_rfl
theorem k30 : ((Rows.insertopLocksRow.veiled == (Tryz.f8.params.toList ++ Rows.insertopLocksSpec.plain.varTypes Tryz.prog ++ Tryz.f8.resultTypes.toList).any (Tryz.prog.veiledRec ·))) = true:=by kernel_rfl
theorem k31 : (Rows.insertopLocksRow.veiledFits Tryz.prog Tryz.f8.params.toList (Tryz.f8.params.toList ++ Rows.insertopLocksSpec.plain.varTypes Tryz.prog ++ Tryz.f8.resultTypes.toList)) = true:=by kernel_rfl
theorem joined : joinedFacts Tryz.prog 8 Tryz.f8 Rows.insertopLocksSpec Rows.insertopLocksRow = true:=(Facts.and2 (Facts.and2 (Facts.and2 (Facts.and2 (Facts.and2 (Facts.and2 (Facts.and2 (Facts.and2 (Facts.and2 (Facts.and2 (Facts.and2 (Facts.and2 (Facts.and2 (Facts.and2 (Facts.and2 (Facts.and2 (Facts.and2 (Facts.and2 (Facts.and2 (Facts.and2 (Facts.and2 (Facts.and2 (Facts.and2 (Facts.and2 (Facts.and2 (Facts.and2 (Facts.and2 (Facts.and2 (Facts.and2 (Facts.and2 (Facts.and2 k0 Facts.laid) Facts.mapsR) k3) k4) k5) Facts.st) k7) Facts.stk) k9) k10) k11) k12) k13) k14) k15) k16) k17) k18) k19) k20) k21) k22) k23) Facts.heard) Facts.enter) k26) k27) k28) k29) k30) k31)
theorem named : Tryz.prog.funcNamed Rows.insertopLocksRow.func = some 8:=by kernel_rfl
theorem inst : Func.isInstance Tryz.prog Tryz.f8 Rows.insertopLocksRow.origin Rows.insertopLocksRow.targs:=of_decide_eq_true (by kernel_rfl)
theorem wrap : Func.isWrapper Tryz.prog Tryz.f8 Rows.insertopLocksRow.wrapper Rows.insertopLocksRow.mainSum:=by unfold Func.isWrapper;first | (rw [if_pos (by decide +kernel)];kernel_rfl) | (rw [if_neg (by decide +kernel)];exact ⟨rfl,rfl⟩)
theorem over : Rows.insertopLocksRow.holds Tryz.pinned (OpenSpec.ofChange Rows.insertopLocksSpec):=
 OpenClaim.holds_of_wide 8 Tryz.f8 rfl rfl rfl rfl rfl rfl rfl ⟨rfl,rfl,rfl,rfl,rfl⟩ rfl rfl rfl rfl rfl named Tryz.func8 joined inst wrap
  (fun os started H enc _=>lifted os started H enc)
theorem proved : Rows.InsertopLocksSaid:=
 over
#print axioms proved
end Go.Proofs.YtcffiehcdadimaaGreat.insertopLocks
