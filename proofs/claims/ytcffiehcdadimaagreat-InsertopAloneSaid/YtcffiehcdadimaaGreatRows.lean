/-
  No cell of these rows narrows 'for every input' (looked for: loops, veiled, ifaces, maps, wideKeys, modest, calm, conditions, laid).
  DERIVED. THE GIVEN ROWS OF THIS SEAT. 10 by the template 'for every input the law returns true; each argument reads behind the call as it read before'; 0 by the template 'total and deterministic' (their statements: YtcffiehcdadimaaGreatTotals.lean).
  GIVEN WITH THE SEED: the statements are not yours to turn. If you find one false, say at which input.
  Laid BY PROGRAM, IN A SANDBOX (cutbox-rows.mjs): the forced cells as the released guide's own fill.sh prints them over the translation 1b748287ac5ae77b… (all of the seat's roots in one cut). By AI agents, Wed Nov 11 2026. No macro, syntax, notation, axiom, sorry.
-/
import Derived.Test.YtcffiehcdadimaaGreatChecked
import GoSem.Claim
import GoSem.ClaimJoined
import GoSem.ClaimMapViews
import Derived.JoinedTies
import Derived.KernelRfl
namespace Go.Proofs.YtcffiehcdadimaaGreat
/- THE CELL 'sum', in the pinned program and in every row, IS THE sha256 OF THE DUMP (.gsa) THAT YtcffiehcdadimaaGreatProg.lean LOADS. Nothing in Lean hashes anything: it is a label: what it is worth is what the hold of that sum in a sandbox is worth. -/
noncomputable def Tryz.pinned : Pinned := { name := "ytcffiehcdadimaagreat", sum := "1b748287ac5ae77bccbcf6673ba1550be4cb34b722d9d30b0d2e077baf8f4442", checked := Tryz.checked }
namespace Rows
def none {H : Type} : Left H := { results := [], args := [] }

/-- 'ropeladderlaw13.CancelopOnce': WHATEVER THE INPUT: true; the input reads as it did. -/
def cancelopOnceSpec : ChangeSpec := { name := "cancelopOnce", fn := fun _ => fun
  | [d1, d2, d3, d4] => { results := [.lit (.bool true)], args := [d1, d2, d3, d4] }
  | _ => none }
def cancelopOnceRow : OpenClaim := { program := "ytcffiehcdadimaagreat", sum := "1b748287ac5ae77bccbcf6673ba1550be4cb34b722d9d30b0d2e077baf8f4442", func := "ropeladder/ropeladderlaw13.CancelopOnce", spec := "cancelopOnce", inPlace := ["slices.overlaps[ropeladder/api.Item]"], unfollowed := true, recurses := true, apart := false }
def CancelopOnceSaid : Prop := cancelopOnceRow.holds Tryz.pinned (OpenSpec.ofChange cancelopOnceSpec)

/-- ITS FALSE NEIGHBOUR: 'it returns false'. Refute it at one input. -/
def cancelopOnceWrong : ChangeSpec := { name := "cancelopOnce", fn := fun _ => fun
  | [d1, d2, d3, d4] => { results := [.lit (.bool false)], args := [d1, d2, d3, d4] }
  | _ => none }
def CancelopOnceWrongFalsely : Prop := cancelopOnceRow.holds Tryz.pinned (OpenSpec.ofChange cancelopOnceWrong)

/-- 'ropeladderlaw13.CancelopAlone': WHATEVER THE INPUT: true; the input reads as it did. -/
def cancelopAloneSpec : ChangeSpec := { name := "cancelopAlone", fn := fun _ => fun
  | [d1, d2, d3] => { results := [.lit (.bool true)], args := [d1, d2, d3] }
  | _ => none }
def cancelopAloneRow : OpenClaim := { program := "ytcffiehcdadimaagreat", sum := "1b748287ac5ae77bccbcf6673ba1550be4cb34b722d9d30b0d2e077baf8f4442", func := "ropeladder/ropeladderlaw13.CancelopAlone", spec := "cancelopAlone", inPlace := ["slices.overlaps[ropeladder/api.Item]"], unfollowed := true, recurses := true, apart := false }
def CancelopAloneSaid : Prop := cancelopAloneRow.holds Tryz.pinned (OpenSpec.ofChange cancelopAloneSpec)

/-- ITS FALSE NEIGHBOUR: 'it returns false'. Refute it at one input. -/
def cancelopAloneWrong : ChangeSpec := { name := "cancelopAlone", fn := fun _ => fun
  | [d1, d2, d3] => { results := [.lit (.bool false)], args := [d1, d2, d3] }
  | _ => none }
def CancelopAloneWrongFalsely : Prop := cancelopAloneRow.holds Tryz.pinned (OpenSpec.ofChange cancelopAloneWrong)

/-- 'ropeladderlaw13.CancelopWaits': WHATEVER THE INPUT: true; the input reads as it did. -/
def cancelopWaitsSpec : ChangeSpec := { name := "cancelopWaits", fn := fun _ => fun
  | [d1, d2, d3, d4] => { results := [.lit (.bool true)], args := [d1, d2, d3, d4] }
  | _ => none }
def cancelopWaitsRow : OpenClaim := { program := "ytcffiehcdadimaagreat", sum := "1b748287ac5ae77bccbcf6673ba1550be4cb34b722d9d30b0d2e077baf8f4442", func := "ropeladder/ropeladderlaw13.CancelopWaits", spec := "cancelopWaits", inPlace := ["slices.overlaps[ropeladder/api.Item]"], unfollowed := true, recurses := true, apart := false }
def CancelopWaitsSaid : Prop := cancelopWaitsRow.holds Tryz.pinned (OpenSpec.ofChange cancelopWaitsSpec)

/-- ITS FALSE NEIGHBOUR: 'it returns false'. Refute it at one input. -/
def cancelopWaitsWrong : ChangeSpec := { name := "cancelopWaits", fn := fun _ => fun
  | [d1, d2, d3, d4] => { results := [.lit (.bool false)], args := [d1, d2, d3, d4] }
  | _ => none }
def CancelopWaitsWrongFalsely : Prop := cancelopWaitsRow.holds Tryz.pinned (OpenSpec.ofChange cancelopWaitsWrong)

/-- 'ropeladderlaw13.CancelopLockFree': WHATEVER THE INPUT: true; the input reads as it did. -/
def cancelopLockFreeSpec : ChangeSpec := { name := "cancelopLockFree", fn := fun _ => fun
  | [d1, d2, d3, d4] => { results := [.lit (.bool true)], args := [d1, d2, d3, d4] }
  | _ => none }
def cancelopLockFreeRow : OpenClaim := { program := "ytcffiehcdadimaagreat", sum := "1b748287ac5ae77bccbcf6673ba1550be4cb34b722d9d30b0d2e077baf8f4442", func := "ropeladder/ropeladderlaw13.CancelopLockFree", spec := "cancelopLockFree", inPlace := ["slices.overlaps[ropeladder/api.Item]"], unfollowed := true, recurses := true, apart := false }
def CancelopLockFreeSaid : Prop := cancelopLockFreeRow.holds Tryz.pinned (OpenSpec.ofChange cancelopLockFreeSpec)

/-- ITS FALSE NEIGHBOUR: 'it returns false'. Refute it at one input. -/
def cancelopLockFreeWrong : ChangeSpec := { name := "cancelopLockFree", fn := fun _ => fun
  | [d1, d2, d3, d4] => { results := [.lit (.bool false)], args := [d1, d2, d3, d4] }
  | _ => none }
def CancelopLockFreeWrongFalsely : Prop := cancelopLockFreeRow.holds Tryz.pinned (OpenSpec.ofChange cancelopLockFreeWrong)

/-- 'ropeladderlaw13.CancelopMatchesReference': WHATEVER THE INPUT: true; the input reads as it did. -/
def cancelopMatchesReferenceSpec : ChangeSpec := { name := "cancelopMatchesReference", fn := fun _ => fun
  | [d1, d2, d3, d4] => { results := [.lit (.bool true)], args := [d1, d2, d3, d4] }
  | _ => none }
def cancelopMatchesReferenceRow : OpenClaim := { program := "ytcffiehcdadimaagreat", sum := "1b748287ac5ae77bccbcf6673ba1550be4cb34b722d9d30b0d2e077baf8f4442", func := "ropeladder/ropeladderlaw13.CancelopMatchesReference", spec := "cancelopMatchesReference", inPlace := ["slices.overlaps[ropeladder/api.Item]"], unfollowed := true, recurses := true, apart := false }
def CancelopMatchesReferenceSaid : Prop := cancelopMatchesReferenceRow.holds Tryz.pinned (OpenSpec.ofChange cancelopMatchesReferenceSpec)

/-- ITS FALSE NEIGHBOUR: 'it returns false'. Refute it at one input. -/
def cancelopMatchesReferenceWrong : ChangeSpec := { name := "cancelopMatchesReference", fn := fun _ => fun
  | [d1, d2, d3, d4] => { results := [.lit (.bool false)], args := [d1, d2, d3, d4] }
  | _ => none }
def CancelopMatchesReferenceWrongFalsely : Prop := cancelopMatchesReferenceRow.holds Tryz.pinned (OpenSpec.ofChange cancelopMatchesReferenceWrong)

/-- 'ropeladderlaw12.InsertopLocks': WHATEVER THE INPUT: true; the input reads as it did. -/
def insertopLocksSpec : ChangeSpec := { name := "insertopLocks", fn := fun _ => fun
  | [d1, d2, d3, d4] => { results := [.lit (.bool true)], args := [d1, d2, d3, d4] }
  | _ => none }
def insertopLocksRow : OpenClaim := { program := "ytcffiehcdadimaagreat", sum := "1b748287ac5ae77bccbcf6673ba1550be4cb34b722d9d30b0d2e077baf8f4442", func := "ropeladder/ropeladderlaw12.InsertopLocks", spec := "insertopLocks", inPlace := ["slices.overlaps[ropeladder/api.Item]"], unfollowed := true, recurses := true, apart := false }
def InsertopLocksSaid : Prop := insertopLocksRow.holds Tryz.pinned (OpenSpec.ofChange insertopLocksSpec)

/-- ITS FALSE NEIGHBOUR: 'it returns false'. Refute it at one input. -/
def insertopLocksWrong : ChangeSpec := { name := "insertopLocks", fn := fun _ => fun
  | [d1, d2, d3, d4] => { results := [.lit (.bool false)], args := [d1, d2, d3, d4] }
  | _ => none }
def InsertopLocksWrongFalsely : Prop := insertopLocksRow.holds Tryz.pinned (OpenSpec.ofChange insertopLocksWrong)

/-- 'ropeladderlaw12.InsertopAlone': WHATEVER THE INPUT: true; the input reads as it did. -/
def insertopAloneSpec : ChangeSpec := { name := "insertopAlone", fn := fun _ => fun
  | [d1, d2, d3] => { results := [.lit (.bool true)], args := [d1, d2, d3] }
  | _ => none }
def insertopAloneRow : OpenClaim := { program := "ytcffiehcdadimaagreat", sum := "1b748287ac5ae77bccbcf6673ba1550be4cb34b722d9d30b0d2e077baf8f4442", func := "ropeladder/ropeladderlaw12.InsertopAlone", spec := "insertopAlone", inPlace := ["slices.overlaps[ropeladder/api.Item]"], unfollowed := true, recurses := true, apart := false }
def InsertopAloneSaid : Prop := insertopAloneRow.holds Tryz.pinned (OpenSpec.ofChange insertopAloneSpec)

/-- ITS FALSE NEIGHBOUR: 'it returns false'. Refute it at one input. -/
def insertopAloneWrong : ChangeSpec := { name := "insertopAlone", fn := fun _ => fun
  | [d1, d2, d3] => { results := [.lit (.bool false)], args := [d1, d2, d3] }
  | _ => none }
def InsertopAloneWrongFalsely : Prop := insertopAloneRow.holds Tryz.pinned (OpenSpec.ofChange insertopAloneWrong)

/-- 'ropeladderlaw12.InsertopMatchesReference': WHATEVER THE INPUT: true; the input reads as it did. -/
def insertopMatchesReferenceSpec : ChangeSpec := { name := "insertopMatchesReference", fn := fun _ => fun
  | [d1, d2, d3, d4] => { results := [.lit (.bool true)], args := [d1, d2, d3, d4] }
  | _ => none }
def insertopMatchesReferenceRow : OpenClaim := { program := "ytcffiehcdadimaagreat", sum := "1b748287ac5ae77bccbcf6673ba1550be4cb34b722d9d30b0d2e077baf8f4442", func := "ropeladder/ropeladderlaw12.InsertopMatchesReference", spec := "insertopMatchesReference", inPlace := ["slices.overlaps[ropeladder/api.Item]"], unfollowed := true, recurses := true, apart := false }
def InsertopMatchesReferenceSaid : Prop := insertopMatchesReferenceRow.holds Tryz.pinned (OpenSpec.ofChange insertopMatchesReferenceSpec)

/-- ITS FALSE NEIGHBOUR: 'it returns false'. Refute it at one input. -/
def insertopMatchesReferenceWrong : ChangeSpec := { name := "insertopMatchesReference", fn := fun _ => fun
  | [d1, d2, d3, d4] => { results := [.lit (.bool false)], args := [d1, d2, d3, d4] }
  | _ => none }
def InsertopMatchesReferenceWrongFalsely : Prop := insertopMatchesReferenceRow.holds Tryz.pinned (OpenSpec.ofChange insertopMatchesReferenceWrong)

/-- 'ropeladderlaw12.InsertopTogether': WHATEVER THE INPUT: true; the input reads as it did. -/
def insertopTogetherSpec : ChangeSpec := { name := "insertopTogether", fn := fun _ => fun
  | [d1, d2, d3, d4] => { results := [.lit (.bool true)], args := [d1, d2, d3, d4] }
  | _ => none }
def insertopTogetherRow : OpenClaim := { program := "ytcffiehcdadimaagreat", sum := "1b748287ac5ae77bccbcf6673ba1550be4cb34b722d9d30b0d2e077baf8f4442", func := "ropeladder/ropeladderlaw12.InsertopTogether", spec := "insertopTogether", inPlace := ["slices.overlaps[ropeladder/api.Item]"], unfollowed := true, recurses := true, apart := false }
def InsertopTogetherSaid : Prop := insertopTogetherRow.holds Tryz.pinned (OpenSpec.ofChange insertopTogetherSpec)

/-- ITS FALSE NEIGHBOUR: 'it returns false'. Refute it at one input. -/
def insertopTogetherWrong : ChangeSpec := { name := "insertopTogether", fn := fun _ => fun
  | [d1, d2, d3, d4] => { results := [.lit (.bool false)], args := [d1, d2, d3, d4] }
  | _ => none }
def InsertopTogetherWrongFalsely : Prop := insertopTogetherRow.holds Tryz.pinned (OpenSpec.ofChange insertopTogetherWrong)

/-- 'ropeladderlaw12.InsertopOrder': WHATEVER THE INPUT: true; the input reads as it did. -/
def insertopOrderSpec : ChangeSpec := { name := "insertopOrder", fn := fun _ => fun
  | [d1, d2, d3, d4] => { results := [.lit (.bool true)], args := [d1, d2, d3, d4] }
  | _ => none }
def insertopOrderRow : OpenClaim := { program := "ytcffiehcdadimaagreat", sum := "1b748287ac5ae77bccbcf6673ba1550be4cb34b722d9d30b0d2e077baf8f4442", func := "ropeladder/ropeladderlaw12.InsertopOrder", spec := "insertopOrder", inPlace := ["slices.overlaps[ropeladder/api.Item]"], unfollowed := true, recurses := true, apart := false }
def InsertopOrderSaid : Prop := insertopOrderRow.holds Tryz.pinned (OpenSpec.ofChange insertopOrderSpec)

/-- ITS FALSE NEIGHBOUR: 'it returns false'. Refute it at one input. -/
def insertopOrderWrong : ChangeSpec := { name := "insertopOrder", fn := fun _ => fun
  | [d1, d2, d3, d4] => { results := [.lit (.bool false)], args := [d1, d2, d3, d4] }
  | _ => none }
def InsertopOrderWrongFalsely : Prop := insertopOrderRow.holds Tryz.pinned (OpenSpec.ofChange insertopOrderWrong)

/- THE SECOND FORM. 'bulk': how many values and letters a reading holds, each counted each time it is reached (what is shared counts as often as it is met; a slice's spare places count too). A statement '..UptoSaid' is the law's where the arguments, and the package variables that the reading takes, are together of bulk at most 1048576: NARROWER than '..Said'. Prove '..Said' where nothing that the law and all that it calls make is longer than what came in: it says more and counts as full. Else prove '..UptoSaid'. A law counts once. -/
mutual
def uptoBulk {H : Type} : DataW H → Nat
  | .lit (.string bytes) => bytes.length + 1
  | .lit _ => 1
  | .nil => 1
  | .ptr d => uptoBulk d + 1
  | .slice elems spare => uptoBulkAll elems + uptoBulkAll spare + 1
  | .agg parts => uptoBulkAll parts + 1
  | .iface _ d => uptoBulk d + 1
  | .map entries => uptoBulkEntries entries + 1
  | .held _ => 1
def uptoBulkAll {H : Type} : List (DataW H) → Nat
  | [] => 0
  | d :: r => uptoBulk d + uptoBulkAll r
def uptoBulkEntries {H : Type} : List (Lit × DataW H) → Nat
  | [] => 0
  | x :: r => uptoBulkEntry x + uptoBulkEntries r
def uptoBulkEntry {H : Type} : Lit × DataW H → Nat
  | (.string bytes, d) => bytes.length + uptoBulk d + 1
  | (_, d) => uptoBulk d + 1
 end
def uptoSmall : (H : Type) → List (DataW H) → Bool := fun _ ds => decide (uptoBulkAll ds ≤ 1048576)
def OpenSpec.upto (s : _root_.Go.ChangeSpec) : _root_.Go.OpenSpec := { _root_.Go.OpenSpec.ofChange s with cond := some uptoSmall }

/-- 'ropeladderlaw13.CancelopOnce', WHERE WHAT IT READS IS OF BULK AT MOST 1048576: true; the input reads as it did. -/
def cancelopOnceUptoRow : OpenClaim := { program := "ytcffiehcdadimaagreat", sum := "1b748287ac5ae77bccbcf6673ba1550be4cb34b722d9d30b0d2e077baf8f4442", func := "ropeladder/ropeladderlaw13.CancelopOnce", spec := "cancelopOnce", inPlace := ["slices.overlaps[ropeladder/api.Item]"], unfollowed := true, recurses := true, apart := false, narrowed := true }
def CancelopOnceUptoSaid : Prop := cancelopOnceUptoRow.holds Tryz.pinned (OpenSpec.upto cancelopOnceSpec)

/-- 'ropeladderlaw13.CancelopAlone', WHERE WHAT IT READS IS OF BULK AT MOST 1048576: true; the input reads as it did. -/
def cancelopAloneUptoRow : OpenClaim := { program := "ytcffiehcdadimaagreat", sum := "1b748287ac5ae77bccbcf6673ba1550be4cb34b722d9d30b0d2e077baf8f4442", func := "ropeladder/ropeladderlaw13.CancelopAlone", spec := "cancelopAlone", inPlace := ["slices.overlaps[ropeladder/api.Item]"], unfollowed := true, recurses := true, apart := false, narrowed := true }
def CancelopAloneUptoSaid : Prop := cancelopAloneUptoRow.holds Tryz.pinned (OpenSpec.upto cancelopAloneSpec)

/-- 'ropeladderlaw13.CancelopWaits', WHERE WHAT IT READS IS OF BULK AT MOST 1048576: true; the input reads as it did. -/
def cancelopWaitsUptoRow : OpenClaim := { program := "ytcffiehcdadimaagreat", sum := "1b748287ac5ae77bccbcf6673ba1550be4cb34b722d9d30b0d2e077baf8f4442", func := "ropeladder/ropeladderlaw13.CancelopWaits", spec := "cancelopWaits", inPlace := ["slices.overlaps[ropeladder/api.Item]"], unfollowed := true, recurses := true, apart := false, narrowed := true }
def CancelopWaitsUptoSaid : Prop := cancelopWaitsUptoRow.holds Tryz.pinned (OpenSpec.upto cancelopWaitsSpec)

/-- 'ropeladderlaw13.CancelopLockFree', WHERE WHAT IT READS IS OF BULK AT MOST 1048576: true; the input reads as it did. -/
def cancelopLockFreeUptoRow : OpenClaim := { program := "ytcffiehcdadimaagreat", sum := "1b748287ac5ae77bccbcf6673ba1550be4cb34b722d9d30b0d2e077baf8f4442", func := "ropeladder/ropeladderlaw13.CancelopLockFree", spec := "cancelopLockFree", inPlace := ["slices.overlaps[ropeladder/api.Item]"], unfollowed := true, recurses := true, apart := false, narrowed := true }
def CancelopLockFreeUptoSaid : Prop := cancelopLockFreeUptoRow.holds Tryz.pinned (OpenSpec.upto cancelopLockFreeSpec)

/-- 'ropeladderlaw13.CancelopMatchesReference', WHERE WHAT IT READS IS OF BULK AT MOST 1048576: true; the input reads as it did. -/
def cancelopMatchesReferenceUptoRow : OpenClaim := { program := "ytcffiehcdadimaagreat", sum := "1b748287ac5ae77bccbcf6673ba1550be4cb34b722d9d30b0d2e077baf8f4442", func := "ropeladder/ropeladderlaw13.CancelopMatchesReference", spec := "cancelopMatchesReference", inPlace := ["slices.overlaps[ropeladder/api.Item]"], unfollowed := true, recurses := true, apart := false, narrowed := true }
def CancelopMatchesReferenceUptoSaid : Prop := cancelopMatchesReferenceUptoRow.holds Tryz.pinned (OpenSpec.upto cancelopMatchesReferenceSpec)

/-- 'ropeladderlaw12.InsertopLocks', WHERE WHAT IT READS IS OF BULK AT MOST 1048576: true; the input reads as it did. -/
def insertopLocksUptoRow : OpenClaim := { program := "ytcffiehcdadimaagreat", sum := "1b748287ac5ae77bccbcf6673ba1550be4cb34b722d9d30b0d2e077baf8f4442", func := "ropeladder/ropeladderlaw12.InsertopLocks", spec := "insertopLocks", inPlace := ["slices.overlaps[ropeladder/api.Item]"], unfollowed := true, recurses := true, apart := false, narrowed := true }
def InsertopLocksUptoSaid : Prop := insertopLocksUptoRow.holds Tryz.pinned (OpenSpec.upto insertopLocksSpec)

/-- 'ropeladderlaw12.InsertopAlone', WHERE WHAT IT READS IS OF BULK AT MOST 1048576: true; the input reads as it did. -/
def insertopAloneUptoRow : OpenClaim := { program := "ytcffiehcdadimaagreat", sum := "1b748287ac5ae77bccbcf6673ba1550be4cb34b722d9d30b0d2e077baf8f4442", func := "ropeladder/ropeladderlaw12.InsertopAlone", spec := "insertopAlone", inPlace := ["slices.overlaps[ropeladder/api.Item]"], unfollowed := true, recurses := true, apart := false, narrowed := true }
def InsertopAloneUptoSaid : Prop := insertopAloneUptoRow.holds Tryz.pinned (OpenSpec.upto insertopAloneSpec)

/-- 'ropeladderlaw12.InsertopMatchesReference', WHERE WHAT IT READS IS OF BULK AT MOST 1048576: true; the input reads as it did. -/
def insertopMatchesReferenceUptoRow : OpenClaim := { program := "ytcffiehcdadimaagreat", sum := "1b748287ac5ae77bccbcf6673ba1550be4cb34b722d9d30b0d2e077baf8f4442", func := "ropeladder/ropeladderlaw12.InsertopMatchesReference", spec := "insertopMatchesReference", inPlace := ["slices.overlaps[ropeladder/api.Item]"], unfollowed := true, recurses := true, apart := false, narrowed := true }
def InsertopMatchesReferenceUptoSaid : Prop := insertopMatchesReferenceUptoRow.holds Tryz.pinned (OpenSpec.upto insertopMatchesReferenceSpec)

/-- 'ropeladderlaw12.InsertopTogether', WHERE WHAT IT READS IS OF BULK AT MOST 1048576: true; the input reads as it did. -/
def insertopTogetherUptoRow : OpenClaim := { program := "ytcffiehcdadimaagreat", sum := "1b748287ac5ae77bccbcf6673ba1550be4cb34b722d9d30b0d2e077baf8f4442", func := "ropeladder/ropeladderlaw12.InsertopTogether", spec := "insertopTogether", inPlace := ["slices.overlaps[ropeladder/api.Item]"], unfollowed := true, recurses := true, apart := false, narrowed := true }
def InsertopTogetherUptoSaid : Prop := insertopTogetherUptoRow.holds Tryz.pinned (OpenSpec.upto insertopTogetherSpec)

/-- 'ropeladderlaw12.InsertopOrder', WHERE WHAT IT READS IS OF BULK AT MOST 1048576: true; the input reads as it did. -/
def insertopOrderUptoRow : OpenClaim := { program := "ytcffiehcdadimaagreat", sum := "1b748287ac5ae77bccbcf6673ba1550be4cb34b722d9d30b0d2e077baf8f4442", func := "ropeladder/ropeladderlaw12.InsertopOrder", spec := "insertopOrder", inPlace := ["slices.overlaps[ropeladder/api.Item]"], unfollowed := true, recurses := true, apart := false, narrowed := true }
def InsertopOrderUptoSaid : Prop := insertopOrderUptoRow.holds Tryz.pinned (OpenSpec.upto insertopOrderSpec)

end Rows
end Go.Proofs.YtcffiehcdadimaaGreat
