/- For every input, LadderSorts returns true, and what its arguments read is what they read before. No condition. -/
import Derived.Test.YtmihhkcbbdpnaaaFacts
import Derived.Test.YtmihhkcbbdpnaaaG77
namespace Go.Proofs.Ytmihhkcbbdpnaaa.ladderSorts
open Abs
open Go.ChangeShapes Go.WideShapes Go.ChangeAt Go.RowKit
set_option linter.unusedVariables false

theorem own : ownKnob Try.prog.godebug = none := by kernel_rfl
set_option maxRecDepth 100000
theorem lifted (os : Os) (started : os.Started) (H : Type) (enc : TypeId × Value → H) :
    ReturnsInHanded {} Try.checked os 15 .any (Rows.ladderSortsSpec.pre6 enc Try.prog Try.f15 Rows.ladderSortsRow.domain false) (Rows.ladderSortsSpec.post enc Try.prog Try.f15 false true false false) := by
  refine returnsInHanded_of_change (C := Try.checked) own started (by kernel_rfl) Try.func15
    (ChangeSpec.witness6 (enc := enc) (C := Try.checked) false ⟨#[], #[.slice none 0 0], []⟩ 8 (by kernel_rfl) (by kernel_rfl) (by kernel_rfl) (by kernel_rfl)) ?_
  intro W base args ds gs before hval hW _ _
  exact rowCalls tab_ok 5 (congrArg Array.toList Try.params15) (by kernel_rfl) (by kernel_rfl) rfl (fun ds hds => by
    have hds : ds.length = 1 := hds
    match ds, hds with
    | [_], _ => rfl) rfl Try.underlying4 specLSorts W base args ds gs before hval hW
theorem k0 : (Rows.ladderSortsRow.wf (OpenSpec.ofChange Rows.ladderSortsSpec)) = true := by kernel_rfl
theorem k3 : (Try.f15.params.all (Try.prog.readableRec ·)) = true := by kernel_rfl
theorem k4 : (namedTie Try.prog Rows.ladderSortsRow.named Rows.ladderSortsSpec.vars) = true := by kernel_rfl
theorem k5 : ((Rows.ladderSortsRow.stops == [])) = true := by kernel_rfl
theorem k7 : ((Rows.ladderSortsRow.knobs == [])) = true := by kernel_rfl
theorem k9 : ((Rows.ladderSortsRow.inPlace == Try.prog.inPlace 15)) = true := by kernel_rfl
theorem k10 : ((Rows.ladderSortsRow.unfollowed == Try.prog.unfollowed 15)) = true := by kernel_rfl
theorem k11 : ((Rows.ladderSortsRow.recurses == Try.prog.recurses 15)) = true := by kernel_rfl
theorem k12 : ((Rows.ladderSortsRow.named == Try.prog.varsNamed 15)) = true := by kernel_rfl
theorem k13 : ((Rows.ladderSortsRow.maps == (Try.f15.params.toList ++ Rows.ladderSortsSpec.plain.varTypes Try.prog).any (Try.prog.mapsRec ·))) = true := by kernel_rfl
theorem k14 : ((Rows.ladderSortsRow.ifaces == (Try.f15.params.toList ++ Rows.ladderSortsSpec.plain.varTypes Try.prog).any (Try.prog.ifacesRec ·))) = true := by kernel_rfl
theorem k15 : ((Rows.ladderSortsRow.mapsOut == Try.prog.mapsAmong Try.f15.resultTypes.toList)) = true := by kernel_rfl
theorem k16 : ((Rows.ladderSortsRow.loops == (Try.f15.params.toList ++ Rows.ladderSortsSpec.plain.varTypes Try.prog).any (Try.prog.loopsFrom ·))) = true := by kernel_rfl
theorem k17 : ((Rows.ladderSortsRow.wideKeys == (Try.f15.params.toList ++ Rows.ladderSortsSpec.plain.varTypes Try.prog ++ Try.f15.resultTypes.toList).any (Try.prog.wideKeysFrom ·))) = true := by kernel_rfl
theorem k18 : (Rows.ladderSortsSpec.vars.all (Try.prog.varReadable ·)) = true := by kernel_rfl
theorem k19 : (Try.f15.resultTypes.all (fun t => Try.prog.readableRec t && decide (t < Try.prog.types.size))) = true := by kernel_rfl
theorem k20 : ((Rows.ladderSortsRow.ifacesOut == Try.f15.resultTypes.toList.any (Try.prog.ifacesRec ·))) = true := by kernel_rfl
theorem k21 : ((Rows.ladderSortsRow.loopsOut == Try.f15.resultTypes.toList.any (Try.prog.loopsFrom ·))) = true := by kernel_rfl
theorem k22 : ((Rows.ladderSortsRow.plainKeys == Try.prog.plainKeys)) = true := by kernel_rfl
theorem k23 : (Rows.ladderSortsRow.shortTexts.isNone) = true := by kernel_rfl
theorem k26 : ((Rows.ladderSortsRow.lifted == Try.prog.liftsFinal)) = true := by rw [Facts.lifts]; kernel_rfl
theorem k27 : ((Try.prog.make == some Rows.ladderSortsRow.make)) = true := by rw [Facts.made]; kernel_rfl
theorem k28 : ((Rows.ladderSortsRow.kinds == (if Rows.ladderSortsRow.domain.isEmpty then [] else Try.f15.params.toList.map fun t => match Try.prog.underlying t with | some (.int k) => some k | _ => none))) = true := by kernel_rfl
theorem k29 : ((Rows.ladderSortsRow.pinned == Rows.ladderSortsRow.pinnedBy)) = true := by kernel_rfl
theorem k30 : ((Rows.ladderSortsRow.veiled == (Try.f15.params.toList ++ Rows.ladderSortsSpec.plain.varTypes Try.prog ++ Try.f15.resultTypes.toList).any (Try.prog.veiledRec ·))) = true := by kernel_rfl
theorem k31 : (Rows.ladderSortsRow.veiledFits Try.prog Try.f15.params.toList (Try.f15.params.toList ++ Rows.ladderSortsSpec.plain.varTypes Try.prog ++ Try.f15.resultTypes.toList)) = true := by kernel_rfl
theorem joined : joinedFacts Try.prog 15 Try.f15 Rows.ladderSortsSpec Rows.ladderSortsRow = true := (Facts.and2 (Facts.and2 (Facts.and2 (Facts.and2 (Facts.and2 (Facts.and2 (Facts.and2 (Facts.and2 (Facts.and2 (Facts.and2 (Facts.and2 (Facts.and2 (Facts.and2 (Facts.and2 (Facts.and2 (Facts.and2 (Facts.and2 (Facts.and2 (Facts.and2 (Facts.and2 (Facts.and2 (Facts.and2 (Facts.and2 (Facts.and2 (Facts.and2 (Facts.and2 (Facts.and2 (Facts.and2 (Facts.and2 (Facts.and2 (Facts.and2 k0 Facts.laid) Facts.mapsR) k3) k4) k5) Facts.st) k7) Facts.stk) k9) k10) k11) k12) k13) k14) k15) k16) k17) k18) k19) k20) k21) k22) k23) Facts.heard) Facts.enter) k26) k27) k28) k29) k30) k31)
theorem named : Try.prog.funcNamed Rows.ladderSortsRow.func = some 15 := by kernel_rfl
theorem inst : Func.isInstance Try.prog Try.f15 Rows.ladderSortsRow.origin Rows.ladderSortsRow.targs := of_decide_eq_true (by kernel_rfl)
theorem wrap : Func.isWrapper Try.prog Try.f15 Rows.ladderSortsRow.wrapper Rows.ladderSortsRow.mainSum := by unfold Func.isWrapper; first | (rw [if_pos (by decide +kernel)]; kernel_rfl) | (rw [if_neg (by decide +kernel)]; exact ⟨rfl, rfl⟩)
theorem over : Rows.ladderSortsRow.holds Try.pinned (OpenSpec.ofChange Rows.ladderSortsSpec) :=
  OpenClaim.holds_of_wide 15 Try.f15 rfl rfl rfl rfl rfl rfl rfl ⟨rfl, rfl, rfl, rfl, rfl⟩ rfl rfl rfl rfl rfl named Try.func15 joined inst wrap
    (fun os started H enc _ => lifted os started H enc)
theorem proved : Rows.LadderSortsSaid :=
  over
#print axioms proved
end Go.Proofs.Ytmihhkcbbdpnaaa.ladderSorts
