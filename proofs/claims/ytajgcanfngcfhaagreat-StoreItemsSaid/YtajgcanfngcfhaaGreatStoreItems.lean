/- For every input, StoreItems returns true, and what its arguments read is what they read before. No condition. -/
import Derived.Test.YtajgcanfngcfhaaGreatFacts
import Derived.Test.YtajgcanfngcfhaaGreatI6
namespace Go.Proofs.YtajgcanfngcfhaaGreat.storeItems
open Abs
open Go.ChangeShapes Go.WideShapes Go.ChangeAt Go.RowKit
set_option linter.unusedVariables false

theorem own : ownKnob Tryz.prog.godebug = none := by kernel_rfl
set_option maxRecDepth 100000
theorem lifted (os : Os) (started : os.Started) (H : Type) (enc : TypeId × Value → H) :
    ReturnsInHanded {} Tryz.checked os 4 .any (Rows.storeItemsSpec.pre6 enc Tryz.prog Tryz.f4 Rows.storeItemsRow.domain false) (Rows.storeItemsSpec.post enc Tryz.prog Tryz.f4 false true false false) := by
  refine returnsInHanded_of_change (C := Tryz.checked) own started (by kernel_rfl) Tryz.func4
    (ChangeSpec.witness6 (enc := enc) (C := Tryz.checked) false ⟨#[], #[.int .u8 0, .slice none 0 0], []⟩ 8 (by kernel_rfl) (by kernel_rfl) (by kernel_rfl) (by kernel_rfl)) ?_
  intro W base args ds gs before hval hW _ _
  exact rowCalls tab_ok 5 (congrArg Array.toList Tryz.params4) (by kernel_rfl) (by kernel_rfl) rfl (fun ds hds => by
    have hds : ds.length = 2 := hds
    match ds, hds with
    | [_, _], _ => rfl) rfl Tryz.underlying4 specStoreItems W base args ds gs before hval hW
theorem k0 : (Rows.storeItemsRow.wf (OpenSpec.ofChange Rows.storeItemsSpec)) = true := by kernel_rfl
theorem k3 : (Tryz.f4.params.all (Tryz.prog.readableRec ·)) = true := by kernel_rfl
theorem k4 : (namedTie Tryz.prog Rows.storeItemsRow.named Rows.storeItemsSpec.vars) = true := by kernel_rfl
theorem k5 : ((Rows.storeItemsRow.stops == [])) = true := by kernel_rfl
theorem k7 : ((Rows.storeItemsRow.knobs == [])) = true := by kernel_rfl
theorem k9 : ((Rows.storeItemsRow.inPlace == Tryz.prog.inPlace 4)) = true := by kernel_rfl
theorem k10 : ((Rows.storeItemsRow.unfollowed == Tryz.prog.unfollowed 4)) = true := by kernel_rfl
theorem k11 : ((Rows.storeItemsRow.recurses == Tryz.prog.recurses 4)) = true := by kernel_rfl
theorem k12 : ((Rows.storeItemsRow.named == Tryz.prog.varsNamed 4)) = true := by kernel_rfl
theorem k13 : ((Rows.storeItemsRow.maps == (Tryz.f4.params.toList ++ Rows.storeItemsSpec.plain.varTypes Tryz.prog).any (Tryz.prog.mapsRec ·))) = true := by kernel_rfl
theorem k14 : ((Rows.storeItemsRow.ifaces == (Tryz.f4.params.toList ++ Rows.storeItemsSpec.plain.varTypes Tryz.prog).any (Tryz.prog.ifacesRec ·))) = true := by kernel_rfl
theorem k15 : ((Rows.storeItemsRow.mapsOut == Tryz.prog.mapsAmong Tryz.f4.resultTypes.toList)) = true := by kernel_rfl
theorem k16 : ((Rows.storeItemsRow.loops == (Tryz.f4.params.toList ++ Rows.storeItemsSpec.plain.varTypes Tryz.prog).any (Tryz.prog.loopsFrom ·))) = true := by kernel_rfl
theorem k17 : ((Rows.storeItemsRow.wideKeys == (Tryz.f4.params.toList ++ Rows.storeItemsSpec.plain.varTypes Tryz.prog ++ Tryz.f4.resultTypes.toList).any (Tryz.prog.wideKeysFrom ·))) = true := by kernel_rfl
theorem k18 : (Rows.storeItemsSpec.vars.all (Tryz.prog.varReadable ·)) = true := by kernel_rfl
theorem k19 : (Tryz.f4.resultTypes.all (fun t => Tryz.prog.readableRec t && decide (t < Tryz.prog.types.size))) = true := by kernel_rfl
theorem k20 : ((Rows.storeItemsRow.ifacesOut == Tryz.f4.resultTypes.toList.any (Tryz.prog.ifacesRec ·))) = true := by kernel_rfl
theorem k21 : ((Rows.storeItemsRow.loopsOut == Tryz.f4.resultTypes.toList.any (Tryz.prog.loopsFrom ·))) = true := by kernel_rfl
theorem k22 : ((Rows.storeItemsRow.plainKeys == Tryz.prog.plainKeys)) = true := by kernel_rfl
theorem k23 : (Rows.storeItemsRow.shortTexts.isNone) = true := by kernel_rfl
theorem k26 : ((Rows.storeItemsRow.lifted == Tryz.prog.liftsFinal)) = true := by rw [Facts.lifts]; kernel_rfl
theorem k27 : ((Tryz.prog.make == some Rows.storeItemsRow.make)) = true := by rw [Facts.made]; kernel_rfl
theorem k28 : ((Rows.storeItemsRow.kinds == (if Rows.storeItemsRow.domain.isEmpty then [] else Tryz.f4.params.toList.map fun t => match Tryz.prog.underlying t with | some (.int k) => some k | _ => none))) = true := by kernel_rfl
theorem k29 : ((Rows.storeItemsRow.pinned == Rows.storeItemsRow.pinnedBy)) = true := by kernel_rfl
theorem k30 : ((Rows.storeItemsRow.veiled == (Tryz.f4.params.toList ++ Rows.storeItemsSpec.plain.varTypes Tryz.prog ++ Tryz.f4.resultTypes.toList).any (Tryz.prog.veiledRec ·))) = true := by kernel_rfl
theorem k31 : (Rows.storeItemsRow.veiledFits Tryz.prog Tryz.f4.params.toList (Tryz.f4.params.toList ++ Rows.storeItemsSpec.plain.varTypes Tryz.prog ++ Tryz.f4.resultTypes.toList)) = true := by kernel_rfl
theorem joined : joinedFacts Tryz.prog 4 Tryz.f4 Rows.storeItemsSpec Rows.storeItemsRow = true := (Facts.and2 (Facts.and2 (Facts.and2 (Facts.and2 (Facts.and2 (Facts.and2 (Facts.and2 (Facts.and2 (Facts.and2 (Facts.and2 (Facts.and2 (Facts.and2 (Facts.and2 (Facts.and2 (Facts.and2 (Facts.and2 (Facts.and2 (Facts.and2 (Facts.and2 (Facts.and2 (Facts.and2 (Facts.and2 (Facts.and2 (Facts.and2 (Facts.and2 (Facts.and2 (Facts.and2 (Facts.and2 (Facts.and2 (Facts.and2 (Facts.and2 k0 Facts.laid) Facts.mapsR) k3) k4) k5) Facts.st) k7) Facts.stk) k9) k10) k11) k12) k13) k14) k15) k16) k17) k18) k19) k20) k21) k22) k23) Facts.heard) Facts.enter) k26) k27) k28) k29) k30) k31)
theorem named : Tryz.prog.funcNamed Rows.storeItemsRow.func = some 4 := by kernel_rfl
theorem inst : Func.isInstance Tryz.prog Tryz.f4 Rows.storeItemsRow.origin Rows.storeItemsRow.targs := of_decide_eq_true (by kernel_rfl)
theorem wrap : Func.isWrapper Tryz.prog Tryz.f4 Rows.storeItemsRow.wrapper Rows.storeItemsRow.mainSum := by unfold Func.isWrapper; first | (rw [if_pos (by decide +kernel)]; kernel_rfl) | (rw [if_neg (by decide +kernel)]; exact ⟨rfl, rfl⟩)
theorem over : Rows.storeItemsRow.holds Tryz.pinned (OpenSpec.ofChange Rows.storeItemsSpec) :=
  OpenClaim.holds_of_wide 4 Tryz.f4 rfl rfl rfl rfl rfl rfl rfl ⟨rfl, rfl, rfl, rfl, rfl⟩ rfl rfl rfl rfl rfl named Tryz.func4 joined inst wrap
    (fun os started H enc _ => lifted os started H enc)
theorem proved : Rows.StoreItemsSaid :=
  over
#print axioms proved
end Go.Proofs.YtajgcanfngcfhaaGreat.storeItems
