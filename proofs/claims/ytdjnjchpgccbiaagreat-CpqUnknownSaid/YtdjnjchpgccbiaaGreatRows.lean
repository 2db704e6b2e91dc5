/-
  No cell of these rows narrows 'for every input' (looked for: loops, veiled, ifaces, maps, wideKeys, modest, calm, conditions, laid).
  DERIVED. THE GIVEN ROWS OF THIS SEAT. 9 by the template 'for every input the law returns true; each argument reads behind the call as it read before'; 0 by the template 'total and deterministic' (their statements: YtdjnjchpgccbiaaGreatTotals.lean).
  GIVEN WITH THE SEED: the statements are not yours to turn. If you find one false, say at which input.
  Laid BY PROGRAM, IN A SANDBOX (cutbox-rows.mjs): the forced cells as the released guide's own fill.sh prints them over the translation 16014b27b4bf8f20… (all of the seat's roots in one cut). By AI agents, Wed Nov 11 2026. No macro, syntax, notation, axiom, sorry.
-/
import Derived.Test.YtdjnjchpgccbiaaGreatChecked
import GoSem.Claim
import GoSem.ClaimJoined
import GoSem.ClaimMapViews
import Derived.JoinedTies
import Derived.KernelRfl
namespace Go.Proofs.YtdjnjchpgccbiaaGreat
/- THE CELL 'sum', in the pinned program and in every row, IS THE sha256 OF THE DUMP (.gsa) THAT YtdjnjchpgccbiaaGreatProg.lean LOADS. Nothing in Lean hashes anything: it is a label: what it is worth is what the hold of that sum in a sandbox is worth. -/
noncomputable def Tryz.pinned : Pinned := { name := "ytdjnjchpgccbiaagreat", sum := "16014b27b4bf8f2070aa2fb1e0a4a4c56e52734de9e16975c9548963f9266d83", checked := Tryz.checked }
namespace Rows
def none {H : Type} : Left H := { results := [], args := [] }

/-- 'ropeladderlaw15.CpqUnknown': WHATEVER THE INPUT: true; the input reads as it did. -/
def cpqUnknownSpec : ChangeSpec := { name := "cpqUnknown", fn := fun _ => fun
  | [d1, d2, d3] => { results := [.lit (.bool true)], args := [d1, d2, d3] }
  | _ => none }
def cpqUnknownRow : OpenClaim := { program := "ytdjnjchpgccbiaagreat", sum := "16014b27b4bf8f2070aa2fb1e0a4a4c56e52734de9e16975c9548963f9266d83", func := "ropeladder/ropeladderlaw15.CpqUnknown", spec := "cpqUnknown", inPlace := ["slices.overlaps[ropeladder/api.Item]"], unfollowed := true, recurses := true, apart := false }
def CpqUnknownSaid : Prop := cpqUnknownRow.holds Tryz.pinned (OpenSpec.ofChange cpqUnknownSpec)

/-- ITS FALSE NEIGHBOUR: 'it returns false'. Refute it at one input. -/
def cpqUnknownWrong : ChangeSpec := { name := "cpqUnknown", fn := fun _ => fun
  | [d1, d2, d3] => { results := [.lit (.bool false)], args := [d1, d2, d3] }
  | _ => none }
def CpqUnknownWrongFalsely : Prop := cpqUnknownRow.holds Tryz.pinned (OpenSpec.ofChange cpqUnknownWrong)

/-- 'ropeladderlaw15.CpqStalled': WHATEVER THE INPUT: true; the input reads as it did. -/
def cpqStalledSpec : ChangeSpec := { name := "cpqStalled", fn := fun _ => fun
  | [d1, d2, d3, d4, d5] => { results := [.lit (.bool true)], args := [d1, d2, d3, d4, d5] }
  | _ => none }
def cpqStalledRow : OpenClaim := { program := "ytdjnjchpgccbiaagreat", sum := "16014b27b4bf8f2070aa2fb1e0a4a4c56e52734de9e16975c9548963f9266d83", func := "ropeladder/ropeladderlaw15.CpqStalled", spec := "cpqStalled", inPlace := ["slices.overlaps[ropeladder/api.Item]"], unfollowed := true, recurses := true, apart := false }
def CpqStalledSaid : Prop := cpqStalledRow.holds Tryz.pinned (OpenSpec.ofChange cpqStalledSpec)

/-- ITS FALSE NEIGHBOUR: 'it returns false'. Refute it at one input. -/
def cpqStalledWrong : ChangeSpec := { name := "cpqStalled", fn := fun _ => fun
  | [d1, d2, d3, d4, d5] => { results := [.lit (.bool false)], args := [d1, d2, d3, d4, d5] }
  | _ => none }
def CpqStalledWrongFalsely : Prop := cpqStalledRow.holds Tryz.pinned (OpenSpec.ofChange cpqStalledWrong)

/-- 'ropeladderlaw14.BatchopDrains': WHATEVER THE INPUT: true; the input reads as it did. -/
def batchopDrainsSpec : ChangeSpec := { name := "batchopDrains", fn := fun _ => fun
  | [d1, d2] => { results := [.lit (.bool true)], args := [d1, d2] }
  | _ => none }
def batchopDrainsRow : OpenClaim := { program := "ytdjnjchpgccbiaagreat", sum := "16014b27b4bf8f2070aa2fb1e0a4a4c56e52734de9e16975c9548963f9266d83", func := "ropeladder/ropeladderlaw14.BatchopDrains", spec := "batchopDrains", inPlace := ["slices.overlaps[ropeladder/api.Item]"], unfollowed := true, recurses := true, apart := false }
def BatchopDrainsSaid : Prop := batchopDrainsRow.holds Tryz.pinned (OpenSpec.ofChange batchopDrainsSpec)

/-- ITS FALSE NEIGHBOUR: 'it returns false'. Refute it at one input. -/
def batchopDrainsWrong : ChangeSpec := { name := "batchopDrains", fn := fun _ => fun
  | [d1, d2] => { results := [.lit (.bool false)], args := [d1, d2] }
  | _ => none }
def BatchopDrainsWrongFalsely : Prop := batchopDrainsRow.holds Tryz.pinned (OpenSpec.ofChange batchopDrainsWrong)

/-- 'ropeladderlaw14.BatchopAlone': WHATEVER THE INPUT: true; the input reads as it did. -/
def batchopAloneSpec : ChangeSpec := { name := "batchopAlone", fn := fun _ => fun
  | [d1, d2, d3, d4] => { results := [.lit (.bool true)], args := [d1, d2, d3, d4] }
  | _ => none }
def batchopAloneRow : OpenClaim := { program := "ytdjnjchpgccbiaagreat", sum := "16014b27b4bf8f2070aa2fb1e0a4a4c56e52734de9e16975c9548963f9266d83", func := "ropeladder/ropeladderlaw14.BatchopAlone", spec := "batchopAlone", inPlace := ["slices.overlaps[ropeladder/api.Item]"], unfollowed := true, recurses := true, apart := false }
def BatchopAloneSaid : Prop := batchopAloneRow.holds Tryz.pinned (OpenSpec.ofChange batchopAloneSpec)

/-- ITS FALSE NEIGHBOUR: 'it returns false'. Refute it at one input. -/
def batchopAloneWrong : ChangeSpec := { name := "batchopAlone", fn := fun _ => fun
  | [d1, d2, d3, d4] => { results := [.lit (.bool false)], args := [d1, d2, d3, d4] }
  | _ => none }
def BatchopAloneWrongFalsely : Prop := batchopAloneRow.holds Tryz.pinned (OpenSpec.ofChange batchopAloneWrong)

/-- 'ropeladderlaw14.BatchopAtomic': WHATEVER THE INPUT: true; the input reads as it did. -/
def batchopAtomicSpec : ChangeSpec := { name := "batchopAtomic", fn := fun _ => fun
  | [d1, d2, d3, d4, d5, d6] => { results := [.lit (.bool true)], args := [d1, d2, d3, d4, d5, d6] }
  | _ => none }
def batchopAtomicRow : OpenClaim := { program := "ytdjnjchpgccbiaagreat", sum := "16014b27b4bf8f2070aa2fb1e0a4a4c56e52734de9e16975c9548963f9266d83", func := "ropeladder/ropeladderlaw14.BatchopAtomic", spec := "batchopAtomic", inPlace := ["slices.overlaps[ropeladder/api.Item]"], unfollowed := true, recurses := true, apart := false }
def BatchopAtomicSaid : Prop := batchopAtomicRow.holds Tryz.pinned (OpenSpec.ofChange batchopAtomicSpec)

/-- ITS FALSE NEIGHBOUR: 'it returns false'. Refute it at one input. -/
def batchopAtomicWrong : ChangeSpec := { name := "batchopAtomic", fn := fun _ => fun
  | [d1, d2, d3, d4, d5, d6] => { results := [.lit (.bool false)], args := [d1, d2, d3, d4, d5, d6] }
  | _ => none }
def BatchopAtomicWrongFalsely : Prop := batchopAtomicRow.holds Tryz.pinned (OpenSpec.ofChange batchopAtomicWrong)

/-- 'ropeladderlaw14.BatchopMatchesReference': WHATEVER THE INPUT: true; the input reads as it did. -/
def batchopMatchesReferenceSpec : ChangeSpec := { name := "batchopMatchesReference", fn := fun _ => fun
  | [d1, d2, d3, d4, d5, d6] => { results := [.lit (.bool true)], args := [d1, d2, d3, d4, d5, d6] }
  | _ => none }
def batchopMatchesReferenceRow : OpenClaim := { program := "ytdjnjchpgccbiaagreat", sum := "16014b27b4bf8f2070aa2fb1e0a4a4c56e52734de9e16975c9548963f9266d83", func := "ropeladder/ropeladderlaw14.BatchopMatchesReference", spec := "batchopMatchesReference", inPlace := ["slices.overlaps[ropeladder/api.Item]"], unfollowed := true, recurses := true, apart := false }
def BatchopMatchesReferenceSaid : Prop := batchopMatchesReferenceRow.holds Tryz.pinned (OpenSpec.ofChange batchopMatchesReferenceSpec)

/-- ITS FALSE NEIGHBOUR: 'it returns false'. Refute it at one input. -/
def batchopMatchesReferenceWrong : ChangeSpec := { name := "batchopMatchesReference", fn := fun _ => fun
  | [d1, d2, d3, d4, d5, d6] => { results := [.lit (.bool false)], args := [d1, d2, d3, d4, d5, d6] }
  | _ => none }
def BatchopMatchesReferenceWrongFalsely : Prop := batchopMatchesReferenceRow.holds Tryz.pinned (OpenSpec.ofChange batchopMatchesReferenceWrong)

/-- 'ropeladderlaw15.CpqMatchesReference': WHATEVER THE INPUT: true; the input reads as it did. -/
def cpqMatchesReferenceSpec : ChangeSpec := { name := "cpqMatchesReference", fn := fun _ => fun
  | [d1, d2, d3, d4] => { results := [.lit (.bool true)], args := [d1, d2, d3, d4] }
  | _ => none }
def cpqMatchesReferenceRow : OpenClaim := { program := "ytdjnjchpgccbiaagreat", sum := "16014b27b4bf8f2070aa2fb1e0a4a4c56e52734de9e16975c9548963f9266d83", func := "ropeladder/ropeladderlaw15.CpqMatchesReference", spec := "cpqMatchesReference", inPlace := ["slices.overlaps[ropeladder/api.Item]"], unfollowed := true, recurses := true, apart := false }
def CpqMatchesReferenceSaid : Prop := cpqMatchesReferenceRow.holds Tryz.pinned (OpenSpec.ofChange cpqMatchesReferenceSpec)

/-- ITS FALSE NEIGHBOUR: 'it returns false'. Refute it at one input. -/
def cpqMatchesReferenceWrong : ChangeSpec := { name := "cpqMatchesReference", fn := fun _ => fun
  | [d1, d2, d3, d4] => { results := [.lit (.bool false)], args := [d1, d2, d3, d4] }
  | _ => none }
def CpqMatchesReferenceWrongFalsely : Prop := cpqMatchesReferenceRow.holds Tryz.pinned (OpenSpec.ofChange cpqMatchesReferenceWrong)

/-- 'ropeladderlaw15.CpqBounded': WHATEVER THE INPUT: true; the input reads as it did. -/
def cpqBoundedSpec : ChangeSpec := { name := "cpqBounded", fn := fun _ => fun
  | [d1, d2, d3] => { results := [.lit (.bool true)], args := [d1, d2, d3] }
  | _ => none }
def cpqBoundedRow : OpenClaim := { program := "ytdjnjchpgccbiaagreat", sum := "16014b27b4bf8f2070aa2fb1e0a4a4c56e52734de9e16975c9548963f9266d83", func := "ropeladder/ropeladderlaw15.CpqBounded", spec := "cpqBounded", inPlace := ["slices.overlaps[ropeladder/api.Item]"], unfollowed := true, recurses := true, apart := false }
def CpqBoundedSaid : Prop := cpqBoundedRow.holds Tryz.pinned (OpenSpec.ofChange cpqBoundedSpec)

/-- ITS FALSE NEIGHBOUR: 'it returns false'. Refute it at one input. -/
def cpqBoundedWrong : ChangeSpec := { name := "cpqBounded", fn := fun _ => fun
  | [d1, d2, d3] => { results := [.lit (.bool false)], args := [d1, d2, d3] }
  | _ => none }
def CpqBoundedWrongFalsely : Prop := cpqBoundedRow.holds Tryz.pinned (OpenSpec.ofChange cpqBoundedWrong)

/-- 'ropeladderlaw15.CpqSequential': WHATEVER THE INPUT: true; the input reads as it did. -/
def cpqSequentialSpec : ChangeSpec := { name := "cpqSequential", fn := fun _ => fun
  | [d1, d2] => { results := [.lit (.bool true)], args := [d1, d2] }
  | _ => none }
def cpqSequentialRow : OpenClaim := { program := "ytdjnjchpgccbiaagreat", sum := "16014b27b4bf8f2070aa2fb1e0a4a4c56e52734de9e16975c9548963f9266d83", func := "ropeladder/ropeladderlaw15.CpqSequential", spec := "cpqSequential", inPlace := ["slices.overlaps[ropeladder/api.Item]", "slices.overlaps[ropeladder/api.Entry]"], unfollowed := true, recurses := true, apart := false }
def CpqSequentialSaid : Prop := cpqSequentialRow.holds Tryz.pinned (OpenSpec.ofChange cpqSequentialSpec)

/-- ITS FALSE NEIGHBOUR: 'it returns false'. Refute it at one input. -/
def cpqSequentialWrong : ChangeSpec := { name := "cpqSequential", fn := fun _ => fun
  | [d1, d2] => { results := [.lit (.bool false)], args := [d1, d2] }
  | _ => none }
def CpqSequentialWrongFalsely : Prop := cpqSequentialRow.holds Tryz.pinned (OpenSpec.ofChange cpqSequentialWrong)

/- THE SECOND FORM. 'bulk': how many values and letters a reading holds, each counted each time it is reached (what is shared counts as often as it is met; a slice's spare places count too). A statement '..UptoSaid' is the law's where the arguments, and the package variables that the reading takes, are together of bulk at most 1048576: NARROWER than '..Said'. Prove '..Said' where nothing that the law and all that it calls make is longer than what came in: it says more and counts as full. Else prove '..UptoSaid'. A law counts once. -/
mutual
def uptoBulk {H : Type} : DataW H → Nat
  | .lit (.string bytes) => bytes.length + 1
  | .lit _ => 1
  | .nil => 1
  | .ptr d => uptoBulk d + 1
  | .slice elems spare => uptoBulkAll elems + uptoBulkAll spare + 1
  | .agg parts => uptoBulkAll parts + 1
  | .iface _ d => uptoBulk d + 1
  | .map entries => uptoBulkEntries entries + 1
  | .held _ => 1
def uptoBulkAll {H : Type} : List (DataW H) → Nat
  | [] => 0
  | d :: r => uptoBulk d + uptoBulkAll r
def uptoBulkEntries {H : Type} : List (Lit × DataW H) → Nat
  | [] => 0
  | x :: r => uptoBulkEntry x + uptoBulkEntries r
def uptoBulkEntry {H : Type} : Lit × DataW H → Nat
  | (.string bytes, d) => bytes.length + uptoBulk d + 1
  | (_, d) => uptoBulk d + 1
 end
def uptoSmall : (H : Type) → List (DataW H) → Bool := fun _ ds => decide (uptoBulkAll ds ≤ 1048576)
def OpenSpec.upto (s : _root_.Go.ChangeSpec) : _root_.Go.OpenSpec := { _root_.Go.OpenSpec.ofChange s with cond := some uptoSmall }

/-- 'ropeladderlaw15.CpqUnknown', WHERE WHAT IT READS IS OF BULK AT MOST 1048576: true; the input reads as it did. -/
def cpqUnknownUptoRow : OpenClaim := { program := "ytdjnjchpgccbiaagreat", sum := "16014b27b4bf8f2070aa2fb1e0a4a4c56e52734de9e16975c9548963f9266d83", func := "ropeladder/ropeladderlaw15.CpqUnknown", spec := "cpqUnknown", inPlace := ["slices.overlaps[ropeladder/api.Item]"], unfollowed := true, recurses := true, apart := false, narrowed := true }
def CpqUnknownUptoSaid : Prop := cpqUnknownUptoRow.holds Tryz.pinned (OpenSpec.upto cpqUnknownSpec)

/-- 'ropeladderlaw15.CpqStalled', WHERE WHAT IT READS IS OF BULK AT MOST 1048576: true; the input reads as it did. -/
def cpqStalledUptoRow : OpenClaim := { program := "ytdjnjchpgccbiaagreat", sum := "16014b27b4bf8f2070aa2fb1e0a4a4c56e52734de9e16975c9548963f9266d83", func := "ropeladder/ropeladderlaw15.CpqStalled", spec := "cpqStalled", inPlace := ["slices.overlaps[ropeladder/api.Item]"], unfollowed := true, recurses := true, apart := false, narrowed := true }
def CpqStalledUptoSaid : Prop := cpqStalledUptoRow.holds Tryz.pinned (OpenSpec.upto cpqStalledSpec)

/-- 'ropeladderlaw14.BatchopDrains', WHERE WHAT IT READS IS OF BULK AT MOST 1048576: true; the input reads as it did. -/
def batchopDrainsUptoRow : OpenClaim := { program := "ytdjnjchpgccbiaagreat", sum := "16014b27b4bf8f2070aa2fb1e0a4a4c56e52734de9e16975c9548963f9266d83", func := "ropeladder/ropeladderlaw14.BatchopDrains", spec := "batchopDrains", inPlace := ["slices.overlaps[ropeladder/api.Item]"], unfollowed := true, recurses := true, apart := false, narrowed := true }
def BatchopDrainsUptoSaid : Prop := batchopDrainsUptoRow.holds Tryz.pinned (OpenSpec.upto batchopDrainsSpec)

/-- 'ropeladderlaw14.BatchopAlone', WHERE WHAT IT READS IS OF BULK AT MOST 1048576: true; the input reads as it did. -/
def batchopAloneUptoRow : OpenClaim := { program := "ytdjnjchpgccbiaagreat", sum := "16014b27b4bf8f2070aa2fb1e0a4a4c56e52734de9e16975c9548963f9266d83", func := "ropeladder/ropeladderlaw14.BatchopAlone", spec := "batchopAlone", inPlace := ["slices.overlaps[ropeladder/api.Item]"], unfollowed := true, recurses := true, apart := false, narrowed := true }
def BatchopAloneUptoSaid : Prop := batchopAloneUptoRow.holds Tryz.pinned (OpenSpec.upto batchopAloneSpec)

/-- 'ropeladderlaw14.BatchopAtomic', WHERE WHAT IT READS IS OF BULK AT MOST 1048576: true; the input reads as it did. -/
def batchopAtomicUptoRow : OpenClaim := { program := "ytdjnjchpgccbiaagreat", sum := "16014b27b4bf8f2070aa2fb1e0a4a4c56e52734de9e16975c9548963f9266d83", func := "ropeladder/ropeladderlaw14.BatchopAtomic", spec := "batchopAtomic", inPlace := ["slices.overlaps[ropeladder/api.Item]"], unfollowed := true, recurses := true, apart := false, narrowed := true }
def BatchopAtomicUptoSaid : Prop := batchopAtomicUptoRow.holds Tryz.pinned (OpenSpec.upto batchopAtomicSpec)

/-- 'ropeladderlaw14.BatchopMatchesReference', WHERE WHAT IT READS IS OF BULK AT MOST 1048576: true; the input reads as it did. -/
def batchopMatchesReferenceUptoRow : OpenClaim := { program := "ytdjnjchpgccbiaagreat", sum := "16014b27b4bf8f2070aa2fb1e0a4a4c56e52734de9e16975c9548963f9266d83", func := "ropeladder/ropeladderlaw14.BatchopMatchesReference", spec := "batchopMatchesReference", inPlace := ["slices.overlaps[ropeladder/api.Item]"], unfollowed := true, recurses := true, apart := false, narrowed := true }
def BatchopMatchesReferenceUptoSaid : Prop := batchopMatchesReferenceUptoRow.holds Tryz.pinned (OpenSpec.upto batchopMatchesReferenceSpec)

/-- 'ropeladderlaw15.CpqMatchesReference', WHERE WHAT IT READS IS OF BULK AT MOST 1048576: true; the input reads as it did. -/
def cpqMatchesReferenceUptoRow : OpenClaim := { program := "ytdjnjchpgccbiaagreat", sum := "16014b27b4bf8f2070aa2fb1e0a4a4c56e52734de9e16975c9548963f9266d83", func := "ropeladder/ropeladderlaw15.CpqMatchesReference", spec := "cpqMatchesReference", inPlace := ["slices.overlaps[ropeladder/api.Item]"], unfollowed := true, recurses := true, apart := false, narrowed := true }
def CpqMatchesReferenceUptoSaid : Prop := cpqMatchesReferenceUptoRow.holds Tryz.pinned (OpenSpec.upto cpqMatchesReferenceSpec)

/-- 'ropeladderlaw15.CpqBounded', WHERE WHAT IT READS IS OF BULK AT MOST 1048576: true; the input reads as it did. -/
def cpqBoundedUptoRow : OpenClaim := { program := "ytdjnjchpgccbiaagreat", sum := "16014b27b4bf8f2070aa2fb1e0a4a4c56e52734de9e16975c9548963f9266d83", func := "ropeladder/ropeladderlaw15.CpqBounded", spec := "cpqBounded", inPlace := ["slices.overlaps[ropeladder/api.Item]"], unfollowed := true, recurses := true, apart := false, narrowed := true }
def CpqBoundedUptoSaid : Prop := cpqBoundedUptoRow.holds Tryz.pinned (OpenSpec.upto cpqBoundedSpec)

/-- 'ropeladderlaw15.CpqSequential', WHERE WHAT IT READS IS OF BULK AT MOST 1048576: true; the input reads as it did. -/
def cpqSequentialUptoRow : OpenClaim := { program := "ytdjnjchpgccbiaagreat", sum := "16014b27b4bf8f2070aa2fb1e0a4a4c56e52734de9e16975c9548963f9266d83", func := "ropeladder/ropeladderlaw15.CpqSequential", spec := "cpqSequential", inPlace := ["slices.overlaps[ropeladder/api.Item]", "slices.overlaps[ropeladder/api.Entry]"], unfollowed := true, recurses := true, apart := false, narrowed := true }
def CpqSequentialUptoSaid : Prop := cpqSequentialUptoRow.holds Tryz.pinned (OpenSpec.upto cpqSequentialSpec)

end Rows
end Go.Proofs.YtdjnjchpgccbiaaGreat
