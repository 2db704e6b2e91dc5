/-
  No cell of these rows narrows 'for every input' (looked for: loops, veiled, ifaces, maps, wideKeys, modest, calm, conditions, laid).
  DERIVED. THE GIVEN ROWS OF THIS SEAT. 17 by the template 'for every input the law returns true; each argument reads behind the call as it read before'; 0 by the template 'total and deterministic' (their statements: YtmihhkcbbdpnaaaTotals.lean).
  GIVEN WITH THE SEED: the statements are not yours to turn. If you find one false, say at which input.
  Laid BY PROGRAM, IN A SANDBOX (cutbox-rows.mjs): the forced cells as the released guide's own fill.sh prints them over the translation d3b399fa7a9a3261… (all of the seat's roots in one cut). By AI agents, Wed Nov 11 2026. No macro, syntax, notation, axiom, sorry.
-/
import Derived.Test.YtmihhkcbbdpnaaaChecked
import GoSem.Claim
import GoSem.ClaimJoined
import GoSem.ClaimMapViews
import Derived.JoinedTies
import Derived.KernelRfl
namespace Go.Proofs.Ytmihhkcbbdpnaaa
/- THE CELL 'sum', in the pinned program and in every row, IS THE sha256 OF THE DUMP (.gsa) THAT YtmihhkcbbdpnaaaProg.lean LOADS. Nothing in Lean hashes anything: it is a label: what it is worth is what the hold of that sum in a sandbox is worth. -/
noncomputable def Try.pinned : Pinned := { name := "ytmihhkcbbdpnaaa", sum := "d3b399fa7a9a32611e1a145e3e315652741ff3ebd24c3fb7675d67d95e059873", checked := Try.checked }
namespace Rows
def none {H : Type} : Left H := { results := [], args := [] }

/-- 'ropeladderlaw10.PqmodelMatchesReference': WHATEVER THE INPUT: true; the input reads as it did. -/
def pqmodelMatchesReferenceSpec : ChangeSpec := { name := "pqmodelMatchesReference", fn := fun _ => fun
  | [d1, d2, d3, d4, d5, d6] => { results := [.lit (.bool true)], args := [d1, d2, d3, d4, d5, d6] }
  | _ => none }
def pqmodelMatchesReferenceRow : OpenClaim := { program := "ytmihhkcbbdpnaaa", sum := "d3b399fa7a9a32611e1a145e3e315652741ff3ebd24c3fb7675d67d95e059873", func := "ropeladder/ropeladderlaw10.PqmodelMatchesReference", spec := "pqmodelMatchesReference", inPlace := ["slices.overlaps[ropeladder/api.Entry]"], unfollowed := true, recurses := true, apart := false }
def PqmodelMatchesReferenceSaid : Prop := pqmodelMatchesReferenceRow.holds Try.pinned (OpenSpec.ofChange pqmodelMatchesReferenceSpec)

/-- ITS FALSE NEIGHBOUR: 'it returns false'. Refute it at one input. -/
def pqmodelMatchesReferenceWrong : ChangeSpec := { name := "pqmodelMatchesReference", fn := fun _ => fun
  | [d1, d2, d3, d4, d5, d6] => { results := [.lit (.bool false)], args := [d1, d2, d3, d4, d5, d6] }
  | _ => none }
def PqmodelMatchesReferenceWrongFalsely : Prop := pqmodelMatchesReferenceRow.holds Try.pinned (OpenSpec.ofChange pqmodelMatchesReferenceWrong)

/-- 'ropeladderlaw10.PqmodelInvariant': WHATEVER THE INPUT: true; the input reads as it did. -/
def pqmodelInvariantSpec : ChangeSpec := { name := "pqmodelInvariant", fn := fun _ => fun
  | [d1, d2, d3] => { results := [.lit (.bool true)], args := [d1, d2, d3] }
  | _ => none }
def pqmodelInvariantRow : OpenClaim := { program := "ytmihhkcbbdpnaaa", sum := "d3b399fa7a9a32611e1a145e3e315652741ff3ebd24c3fb7675d67d95e059873", func := "ropeladder/ropeladderlaw10.PqmodelInvariant", spec := "pqmodelInvariant", inPlace := ["slices.overlaps[ropeladder/api.Entry]"], unfollowed := true, recurses := true, apart := false }
def PqmodelInvariantSaid : Prop := pqmodelInvariantRow.holds Try.pinned (OpenSpec.ofChange pqmodelInvariantSpec)

/-- ITS FALSE NEIGHBOUR: 'it returns false'. Refute it at one input. -/
def pqmodelInvariantWrong : ChangeSpec := { name := "pqmodelInvariant", fn := fun _ => fun
  | [d1, d2, d3] => { results := [.lit (.bool false)], args := [d1, d2, d3] }
  | _ => none }
def PqmodelInvariantWrongFalsely : Prop := pqmodelInvariantRow.holds Try.pinned (OpenSpec.ofChange pqmodelInvariantWrong)

/-- 'ropeladderlaw10.PqmodelOrder': WHATEVER THE INPUT: true; the input reads as it did. -/
def pqmodelOrderSpec : ChangeSpec := { name := "pqmodelOrder", fn := fun _ => fun
  | [d1, d2, d3, d4] => { results := [.lit (.bool true)], args := [d1, d2, d3, d4] }
  | _ => none }
def pqmodelOrderRow : OpenClaim := { program := "ytmihhkcbbdpnaaa", sum := "d3b399fa7a9a32611e1a145e3e315652741ff3ebd24c3fb7675d67d95e059873", func := "ropeladder/ropeladderlaw10.PqmodelOrder", spec := "pqmodelOrder", inPlace := ["slices.overlaps[ropeladder/api.Entry]"], unfollowed := true, recurses := true, apart := false }
def PqmodelOrderSaid : Prop := pqmodelOrderRow.holds Try.pinned (OpenSpec.ofChange pqmodelOrderSpec)

/-- ITS FALSE NEIGHBOUR: 'it returns false'. Refute it at one input. -/
def pqmodelOrderWrong : ChangeSpec := { name := "pqmodelOrder", fn := fun _ => fun
  | [d1, d2, d3, d4] => { results := [.lit (.bool false)], args := [d1, d2, d3, d4] }
  | _ => none }
def PqmodelOrderWrongFalsely : Prop := pqmodelOrderRow.holds Try.pinned (OpenSpec.ofChange pqmodelOrderWrong)

/-- 'ropeladderlaw10.PqmodelOnce': WHATEVER THE INPUT: true; the input reads as it did. -/
def pqmodelOnceSpec : ChangeSpec := { name := "pqmodelOnce", fn := fun _ => fun
  | [d1, d2, d3, d4] => { results := [.lit (.bool true)], args := [d1, d2, d3, d4] }
  | _ => none }
def pqmodelOnceRow : OpenClaim := { program := "ytmihhkcbbdpnaaa", sum := "d3b399fa7a9a32611e1a145e3e315652741ff3ebd24c3fb7675d67d95e059873", func := "ropeladder/ropeladderlaw10.PqmodelOnce", spec := "pqmodelOnce", inPlace := ["slices.overlaps[ropeladder/api.Entry]"], unfollowed := true, recurses := true, apart := false }
def PqmodelOnceSaid : Prop := pqmodelOnceRow.holds Try.pinned (OpenSpec.ofChange pqmodelOnceSpec)

/-- ITS FALSE NEIGHBOUR: 'it returns false'. Refute it at one input. -/
def pqmodelOnceWrong : ChangeSpec := { name := "pqmodelOnce", fn := fun _ => fun
  | [d1, d2, d3, d4] => { results := [.lit (.bool false)], args := [d1, d2, d3, d4] }
  | _ => none }
def PqmodelOnceWrongFalsely : Prop := pqmodelOnceRow.holds Try.pinned (OpenSpec.ofChange pqmodelOnceWrong)

/-- 'ropeladderlaw10.PqmodelCapacity': WHATEVER THE INPUT: true; the input reads as it did. -/
def pqmodelCapacitySpec : ChangeSpec := { name := "pqmodelCapacity", fn := fun _ => fun
  | [d1, d2, d3, d4, d5] => { results := [.lit (.bool true)], args := [d1, d2, d3, d4, d5] }
  | _ => none }
def pqmodelCapacityRow : OpenClaim := { program := "ytmihhkcbbdpnaaa", sum := "d3b399fa7a9a32611e1a145e3e315652741ff3ebd24c3fb7675d67d95e059873", func := "ropeladder/ropeladderlaw10.PqmodelCapacity", spec := "pqmodelCapacity", inPlace := ["slices.overlaps[ropeladder/api.Entry]"], unfollowed := true, recurses := true, apart := false }
def PqmodelCapacitySaid : Prop := pqmodelCapacityRow.holds Try.pinned (OpenSpec.ofChange pqmodelCapacitySpec)

/-- ITS FALSE NEIGHBOUR: 'it returns false'. Refute it at one input. -/
def pqmodelCapacityWrong : ChangeSpec := { name := "pqmodelCapacity", fn := fun _ => fun
  | [d1, d2, d3, d4, d5] => { results := [.lit (.bool false)], args := [d1, d2, d3, d4, d5] }
  | _ => none }
def PqmodelCapacityWrongFalsely : Prop := pqmodelCapacityRow.holds Try.pinned (OpenSpec.ofChange pqmodelCapacityWrong)

/-- 'ropeladderlaw10.PqmodelAccepts': WHATEVER THE INPUT: true; the input reads as it did. -/
def pqmodelAcceptsSpec : ChangeSpec := { name := "pqmodelAccepts", fn := fun _ => fun
  | [d1, d2, d3, d4] => { results := [.lit (.bool true)], args := [d1, d2, d3, d4] }
  | _ => none }
def pqmodelAcceptsRow : OpenClaim := { program := "ytmihhkcbbdpnaaa", sum := "d3b399fa7a9a32611e1a145e3e315652741ff3ebd24c3fb7675d67d95e059873", func := "ropeladder/ropeladderlaw10.PqmodelAccepts", spec := "pqmodelAccepts", inPlace := ["slices.overlaps[ropeladder/api.Entry]"], unfollowed := true, recurses := true, apart := false }
def PqmodelAcceptsSaid : Prop := pqmodelAcceptsRow.holds Try.pinned (OpenSpec.ofChange pqmodelAcceptsSpec)

/-- ITS FALSE NEIGHBOUR: 'it returns false'. Refute it at one input. -/
def pqmodelAcceptsWrong : ChangeSpec := { name := "pqmodelAccepts", fn := fun _ => fun
  | [d1, d2, d3, d4] => { results := [.lit (.bool false)], args := [d1, d2, d3, d4] }
  | _ => none }
def PqmodelAcceptsWrongFalsely : Prop := pqmodelAcceptsRow.holds Try.pinned (OpenSpec.ofChange pqmodelAcceptsWrong)

/-- 'ropeladderlaw09.WorkloadMatchesReference': WHATEVER THE INPUT: true; the input reads as it did. -/
def workloadMatchesReferenceSpec : ChangeSpec := { name := "workloadMatchesReference", fn := fun _ => fun
  | [d1, d2] => { results := [.lit (.bool true)], args := [d1, d2] }
  | _ => none }
def workloadMatchesReferenceRow : OpenClaim := { program := "ytmihhkcbbdpnaaa", sum := "d3b399fa7a9a32611e1a145e3e315652741ff3ebd24c3fb7675d67d95e059873", func := "ropeladder/ropeladderlaw09.WorkloadMatchesReference", spec := "workloadMatchesReference", inPlace := ["slices.overlaps[ropeladder/api.Item]"], unfollowed := true, recurses := true, apart := false }
def WorkloadMatchesReferenceSaid : Prop := workloadMatchesReferenceRow.holds Try.pinned (OpenSpec.ofChange workloadMatchesReferenceSpec)

/-- ITS FALSE NEIGHBOUR: 'it returns false'. Refute it at one input. -/
def workloadMatchesReferenceWrong : ChangeSpec := { name := "workloadMatchesReference", fn := fun _ => fun
  | [d1, d2] => { results := [.lit (.bool false)], args := [d1, d2] }
  | _ => none }
def WorkloadMatchesReferenceWrongFalsely : Prop := workloadMatchesReferenceRow.holds Try.pinned (OpenSpec.ofChange workloadMatchesReferenceWrong)

/-- 'ropeladderlaw09.WorkloadBounds': WHATEVER THE INPUT: true; the input reads as it did. -/
def workloadBoundsSpec : ChangeSpec := { name := "workloadBounds", fn := fun _ => fun
  | [d] => { results := [.lit (.bool true)], args := [d] }
  | _ => none }
def workloadBoundsRow : OpenClaim := { program := "ytmihhkcbbdpnaaa", sum := "d3b399fa7a9a32611e1a145e3e315652741ff3ebd24c3fb7675d67d95e059873", func := "ropeladder/ropeladderlaw09.WorkloadBounds", spec := "workloadBounds", inPlace := ["slices.overlaps[ropeladder/api.Item]"], unfollowed := true, recurses := true, apart := false }
def WorkloadBoundsSaid : Prop := workloadBoundsRow.holds Try.pinned (OpenSpec.ofChange workloadBoundsSpec)

/-- ITS FALSE NEIGHBOUR: 'it returns false'. Refute it at one input. -/
def workloadBoundsWrong : ChangeSpec := { name := "workloadBounds", fn := fun _ => fun
  | [d] => { results := [.lit (.bool false)], args := [d] }
  | _ => none }
def WorkloadBoundsWrongFalsely : Prop := workloadBoundsRow.holds Try.pinned (OpenSpec.ofChange workloadBoundsWrong)

/-- 'ropeladderlaw09.WorkloadEquivalent': WHATEVER THE INPUT: true; the input reads as it did. -/
def workloadEquivalentSpec : ChangeSpec := { name := "workloadEquivalent", fn := fun _ => fun
  | [d] => { results := [.lit (.bool true)], args := [d] }
  | _ => none }
def workloadEquivalentRow : OpenClaim := { program := "ytmihhkcbbdpnaaa", sum := "d3b399fa7a9a32611e1a145e3e315652741ff3ebd24c3fb7675d67d95e059873", func := "ropeladder/ropeladderlaw09.WorkloadEquivalent", spec := "workloadEquivalent", inPlace := ["slices.overlaps[ropeladder/api.Item]"], unfollowed := true, recurses := true, apart := false }
def WorkloadEquivalentSaid : Prop := workloadEquivalentRow.holds Try.pinned (OpenSpec.ofChange workloadEquivalentSpec)

/-- ITS FALSE NEIGHBOUR: 'it returns false'. Refute it at one input. -/
def workloadEquivalentWrong : ChangeSpec := { name := "workloadEquivalent", fn := fun _ => fun
  | [d] => { results := [.lit (.bool false)], args := [d] }
  | _ => none }
def WorkloadEquivalentWrongFalsely : Prop := workloadEquivalentRow.holds Try.pinned (OpenSpec.ofChange workloadEquivalentWrong)

/-- 'ropeladderlaw09.WorkloadDrains': WHATEVER THE INPUT: true; the input reads as it did. -/
def workloadDrainsSpec : ChangeSpec := { name := "workloadDrains", fn := fun _ => fun
  | [d] => { results := [.lit (.bool true)], args := [d] }
  | _ => none }
def workloadDrainsRow : OpenClaim := { program := "ytmihhkcbbdpnaaa", sum := "d3b399fa7a9a32611e1a145e3e315652741ff3ebd24c3fb7675d67d95e059873", func := "ropeladder/ropeladderlaw09.WorkloadDrains", spec := "workloadDrains", inPlace := ["slices.overlaps[ropeladder/api.Item]"], unfollowed := true, recurses := true, apart := false }
def WorkloadDrainsSaid : Prop := workloadDrainsRow.holds Try.pinned (OpenSpec.ofChange workloadDrainsSpec)

/-- ITS FALSE NEIGHBOUR: 'it returns false'. Refute it at one input. -/
def workloadDrainsWrong : ChangeSpec := { name := "workloadDrains", fn := fun _ => fun
  | [d] => { results := [.lit (.bool false)], args := [d] }
  | _ => none }
def WorkloadDrainsWrongFalsely : Prop := workloadDrainsRow.holds Try.pinned (OpenSpec.ofChange workloadDrainsWrong)

/-- 'ropeladderlaw09.WorkloadShifted': WHATEVER THE INPUT: true; the input reads as it did. -/
def workloadShiftedSpec : ChangeSpec := { name := "workloadShifted", fn := fun _ => fun
  | [d1, d2] => { results := [.lit (.bool true)], args := [d1, d2] }
  | _ => none }
def workloadShiftedRow : OpenClaim := { program := "ytmihhkcbbdpnaaa", sum := "d3b399fa7a9a32611e1a145e3e315652741ff3ebd24c3fb7675d67d95e059873", func := "ropeladder/ropeladderlaw09.WorkloadShifted", spec := "workloadShifted", inPlace := ["slices.overlaps[ropeladder/api.Item]"], unfollowed := true, recurses := true, apart := false }
def WorkloadShiftedSaid : Prop := workloadShiftedRow.holds Try.pinned (OpenSpec.ofChange workloadShiftedSpec)

/-- ITS FALSE NEIGHBOUR: 'it returns false'. Refute it at one input. -/
def workloadShiftedWrong : ChangeSpec := { name := "workloadShifted", fn := fun _ => fun
  | [d1, d2] => { results := [.lit (.bool false)], args := [d1, d2] }
  | _ => none }
def WorkloadShiftedWrongFalsely : Prop := workloadShiftedRow.holds Try.pinned (OpenSpec.ofChange workloadShiftedWrong)

/-- 'ropeladderlaw08.LadderInvariant': WHATEVER THE INPUT: true; the input reads as it did. -/
def ladderInvariantSpec : ChangeSpec := { name := "ladderInvariant", fn := fun _ => fun
  | [d1, d2] => { results := [.lit (.bool true)], args := [d1, d2] }
  | _ => none }
def ladderInvariantRow : OpenClaim := { program := "ytmihhkcbbdpnaaa", sum := "d3b399fa7a9a32611e1a145e3e315652741ff3ebd24c3fb7675d67d95e059873", func := "ropeladder/ropeladderlaw08.LadderInvariant", spec := "ladderInvariant", inPlace := ["slices.overlaps[ropeladder/api.Item]"], unfollowed := true, recurses := true, apart := false }
def LadderInvariantSaid : Prop := ladderInvariantRow.holds Try.pinned (OpenSpec.ofChange ladderInvariantSpec)

/-- ITS FALSE NEIGHBOUR: 'it returns false'. Refute it at one input. -/
def ladderInvariantWrong : ChangeSpec := { name := "ladderInvariant", fn := fun _ => fun
  | [d1, d2] => { results := [.lit (.bool false)], args := [d1, d2] }
  | _ => none }
def LadderInvariantWrongFalsely : Prop := ladderInvariantRow.holds Try.pinned (OpenSpec.ofChange ladderInvariantWrong)

/-- 'ropeladderlaw08.LadderSorts': WHATEVER THE INPUT: true; the input reads as it did. -/
def ladderSortsSpec : ChangeSpec := { name := "ladderSorts", fn := fun _ => fun
  | [d] => { results := [.lit (.bool true)], args := [d] }
  | _ => none }
def ladderSortsRow : OpenClaim := { program := "ytmihhkcbbdpnaaa", sum := "d3b399fa7a9a32611e1a145e3e315652741ff3ebd24c3fb7675d67d95e059873", func := "ropeladder/ropeladderlaw08.LadderSorts", spec := "ladderSorts", inPlace := ["slices.overlaps[ropeladder/api.Item]"], unfollowed := true, recurses := true, apart := false }
def LadderSortsSaid : Prop := ladderSortsRow.holds Try.pinned (OpenSpec.ofChange ladderSortsSpec)

/-- ITS FALSE NEIGHBOUR: 'it returns false'. Refute it at one input. -/
def ladderSortsWrong : ChangeSpec := { name := "ladderSorts", fn := fun _ => fun
  | [d] => { results := [.lit (.bool false)], args := [d] }
  | _ => none }
def LadderSortsWrongFalsely : Prop := ladderSortsRow.holds Try.pinned (OpenSpec.ofChange ladderSortsWrong)

/-- 'ropeladderlaw08.LadderModel': WHATEVER THE INPUT: true; the input reads as it did. -/
def ladderModelSpec : ChangeSpec := { name := "ladderModel", fn := fun _ => fun
  | [d] => { results := [.lit (.bool true)], args := [d] }
  | _ => none }
def ladderModelRow : OpenClaim := { program := "ytmihhkcbbdpnaaa", sum := "d3b399fa7a9a32611e1a145e3e315652741ff3ebd24c3fb7675d67d95e059873", func := "ropeladder/ropeladderlaw08.LadderModel", spec := "ladderModel", inPlace := ["slices.overlaps[ropeladder/api.Item]"], unfollowed := true, recurses := true, apart := false }
def LadderModelSaid : Prop := ladderModelRow.holds Try.pinned (OpenSpec.ofChange ladderModelSpec)

/-- ITS FALSE NEIGHBOUR: 'it returns false'. Refute it at one input. -/
def ladderModelWrong : ChangeSpec := { name := "ladderModel", fn := fun _ => fun
  | [d] => { results := [.lit (.bool false)], args := [d] }
  | _ => none }
def LadderModelWrongFalsely : Prop := ladderModelRow.holds Try.pinned (OpenSpec.ofChange ladderModelWrong)

/-- 'ropeladderlaw08.LadderPeeks': WHATEVER THE INPUT: true; the input reads as it did. -/
def ladderPeeksSpec : ChangeSpec := { name := "ladderPeeks", fn := fun _ => fun
  | [d1, d2] => { results := [.lit (.bool true)], args := [d1, d2] }
  | _ => none }
def ladderPeeksRow : OpenClaim := { program := "ytmihhkcbbdpnaaa", sum := "d3b399fa7a9a32611e1a145e3e315652741ff3ebd24c3fb7675d67d95e059873", func := "ropeladder/ropeladderlaw08.LadderPeeks", spec := "ladderPeeks", inPlace := ["slices.overlaps[ropeladder/api.Item]"], unfollowed := true, recurses := true, apart := false }
def LadderPeeksSaid : Prop := ladderPeeksRow.holds Try.pinned (OpenSpec.ofChange ladderPeeksSpec)

/-- ITS FALSE NEIGHBOUR: 'it returns false'. Refute it at one input. -/
def ladderPeeksWrong : ChangeSpec := { name := "ladderPeeks", fn := fun _ => fun
  | [d1, d2] => { results := [.lit (.bool false)], args := [d1, d2] }
  | _ => none }
def LadderPeeksWrongFalsely : Prop := ladderPeeksRow.holds Try.pinned (OpenSpec.ofChange ladderPeeksWrong)

/-- 'ropeladderlaw08.LadderMoves': WHATEVER THE INPUT: true; the input reads as it did. -/
def ladderMovesSpec : ChangeSpec := { name := "ladderMoves", fn := fun _ => fun
  | [d] => { results := [.lit (.bool true)], args := [d] }
  | _ => none }
def ladderMovesRow : OpenClaim := { program := "ytmihhkcbbdpnaaa", sum := "d3b399fa7a9a32611e1a145e3e315652741ff3ebd24c3fb7675d67d95e059873", func := "ropeladder/ropeladderlaw08.LadderMoves", spec := "ladderMoves", inPlace := ["slices.overlaps[ropeladder/api.Item]"], unfollowed := true, recurses := true, apart := false }
def LadderMovesSaid : Prop := ladderMovesRow.holds Try.pinned (OpenSpec.ofChange ladderMovesSpec)

/-- ITS FALSE NEIGHBOUR: 'it returns false'. Refute it at one input. -/
def ladderMovesWrong : ChangeSpec := { name := "ladderMoves", fn := fun _ => fun
  | [d] => { results := [.lit (.bool false)], args := [d] }
  | _ => none }
def LadderMovesWrongFalsely : Prop := ladderMovesRow.holds Try.pinned (OpenSpec.ofChange ladderMovesWrong)

/-- 'ropeladderlaw08.LadderRoutes': WHATEVER THE INPUT: true; the input reads as it did. -/
def ladderRoutesSpec : ChangeSpec := { name := "ladderRoutes", fn := fun _ => fun
  | [d1, d2] => { results := [.lit (.bool true)], args := [d1, d2] }
  | _ => none }
def ladderRoutesRow : OpenClaim := { program := "ytmihhkcbbdpnaaa", sum := "d3b399fa7a9a32611e1a145e3e315652741ff3ebd24c3fb7675d67d95e059873", func := "ropeladder/ropeladderlaw08.LadderRoutes", spec := "ladderRoutes", inPlace := ["slices.overlaps[ropeladder/api.Item]"], unfollowed := true, recurses := true, apart := false }
def LadderRoutesSaid : Prop := ladderRoutesRow.holds Try.pinned (OpenSpec.ofChange ladderRoutesSpec)

/-- ITS FALSE NEIGHBOUR: 'it returns false'. Refute it at one input. -/
def ladderRoutesWrong : ChangeSpec := { name := "ladderRoutes", fn := fun _ => fun
  | [d1, d2] => { results := [.lit (.bool false)], args := [d1, d2] }
  | _ => none }
def LadderRoutesWrongFalsely : Prop := ladderRoutesRow.holds Try.pinned (OpenSpec.ofChange ladderRoutesWrong)

/- THE SECOND FORM. 'bulk': how many values and letters a reading holds, each counted each time it is reached (what is shared counts as often as it is met; a slice's spare places count too). A statement '..UptoSaid' is the law's where the arguments, and the package variables that the reading takes, are together of bulk at most 1048576: NARROWER than '..Said'. Prove '..Said' where nothing that the law and all that it calls make is longer than what came in: it says more and counts as full. Else prove '..UptoSaid'. A law counts once. -/
mutual
def uptoBulk {H : Type} : DataW H → Nat
  | .lit (.string bytes) => bytes.length + 1
  | .lit _ => 1
  | .nil => 1
  | .ptr d => uptoBulk d + 1
  | .slice elems spare => uptoBulkAll elems + uptoBulkAll spare + 1
  | .agg parts => uptoBulkAll parts + 1
  | .iface _ d => uptoBulk d + 1
  | .map entries => uptoBulkEntries entries + 1
  | .held _ => 1
def uptoBulkAll {H : Type} : List (DataW H) → Nat
  | [] => 0
  | d :: r => uptoBulk d + uptoBulkAll r
def uptoBulkEntries {H : Type} : List (Lit × DataW H) → Nat
  | [] => 0
  | x :: r => uptoBulkEntry x + uptoBulkEntries r
def uptoBulkEntry {H : Type} : Lit × DataW H → Nat
  | (.string bytes, d) => bytes.length + uptoBulk d + 1
  | (_, d) => uptoBulk d + 1
 end
def uptoSmall : (H : Type) → List (DataW H) → Bool := fun _ ds => decide (uptoBulkAll ds ≤ 1048576)
def OpenSpec.upto (s : _root_.Go.ChangeSpec) : _root_.Go.OpenSpec := { _root_.Go.OpenSpec.ofChange s with cond := some uptoSmall }

/-- 'ropeladderlaw10.PqmodelMatchesReference', WHERE WHAT IT READS IS OF BULK AT MOST 1048576: true; the input reads as it did. -/
def pqmodelMatchesReferenceUptoRow : OpenClaim := { program := "ytmihhkcbbdpnaaa", sum := "d3b399fa7a9a32611e1a145e3e315652741ff3ebd24c3fb7675d67d95e059873", func := "ropeladder/ropeladderlaw10.PqmodelMatchesReference", spec := "pqmodelMatchesReference", inPlace := ["slices.overlaps[ropeladder/api.Entry]"], unfollowed := true, recurses := true, apart := false, narrowed := true }
def PqmodelMatchesReferenceUptoSaid : Prop := pqmodelMatchesReferenceUptoRow.holds Try.pinned (OpenSpec.upto pqmodelMatchesReferenceSpec)

/-- 'ropeladderlaw10.PqmodelInvariant', WHERE WHAT IT READS IS OF BULK AT MOST 1048576: true; the input reads as it did. -/
def pqmodelInvariantUptoRow : OpenClaim := { program := "ytmihhkcbbdpnaaa", sum := "d3b399fa7a9a32611e1a145e3e315652741ff3ebd24c3fb7675d67d95e059873", func := "ropeladder/ropeladderlaw10.PqmodelInvariant", spec := "pqmodelInvariant", inPlace := ["slices.overlaps[ropeladder/api.Entry]"], unfollowed := true, recurses := true, apart := false, narrowed := true }
def PqmodelInvariantUptoSaid : Prop := pqmodelInvariantUptoRow.holds Try.pinned (OpenSpec.upto pqmodelInvariantSpec)

/-- 'ropeladderlaw10.PqmodelOrder', WHERE WHAT IT READS IS OF BULK AT MOST 1048576: true; the input reads as it did. -/
def pqmodelOrderUptoRow : OpenClaim := { program := "ytmihhkcbbdpnaaa", sum := "d3b399fa7a9a32611e1a145e3e315652741ff3ebd24c3fb7675d67d95e059873", func := "ropeladder/ropeladderlaw10.PqmodelOrder", spec := "pqmodelOrder", inPlace := ["slices.overlaps[ropeladder/api.Entry]"], unfollowed := true, recurses := true, apart := false, narrowed := true }
def PqmodelOrderUptoSaid : Prop := pqmodelOrderUptoRow.holds Try.pinned (OpenSpec.upto pqmodelOrderSpec)

/-- 'ropeladderlaw10.PqmodelOnce', WHERE WHAT IT READS IS OF BULK AT MOST 1048576: true; the input reads as it did. -/
def pqmodelOnceUptoRow : OpenClaim := { program := "ytmihhkcbbdpnaaa", sum := "d3b399fa7a9a32611e1a145e3e315652741ff3ebd24c3fb7675d67d95e059873", func := "ropeladder/ropeladderlaw10.PqmodelOnce", spec := "pqmodelOnce", inPlace := ["slices.overlaps[ropeladder/api.Entry]"], unfollowed := true, recurses := true, apart := false, narrowed := true }
def PqmodelOnceUptoSaid : Prop := pqmodelOnceUptoRow.holds Try.pinned (OpenSpec.upto pqmodelOnceSpec)

/-- 'ropeladderlaw10.PqmodelCapacity', WHERE WHAT IT READS IS OF BULK AT MOST 1048576: true; the input reads as it did. -/
def pqmodelCapacityUptoRow : OpenClaim := { program := "ytmihhkcbbdpnaaa", sum := "d3b399fa7a9a32611e1a145e3e315652741ff3ebd24c3fb7675d67d95e059873", func := "ropeladder/ropeladderlaw10.PqmodelCapacity", spec := "pqmodelCapacity", inPlace := ["slices.overlaps[ropeladder/api.Entry]"], unfollowed := true, recurses := true, apart := false, narrowed := true }
def PqmodelCapacityUptoSaid : Prop := pqmodelCapacityUptoRow.holds Try.pinned (OpenSpec.upto pqmodelCapacitySpec)

/-- 'ropeladderlaw10.PqmodelAccepts', WHERE WHAT IT READS IS OF BULK AT MOST 1048576: true; the input reads as it did. -/
def pqmodelAcceptsUptoRow : OpenClaim := { program := "ytmihhkcbbdpnaaa", sum := "d3b399fa7a9a32611e1a145e3e315652741ff3ebd24c3fb7675d67d95e059873", func := "ropeladder/ropeladderlaw10.PqmodelAccepts", spec := "pqmodelAccepts", inPlace := ["slices.overlaps[ropeladder/api.Entry]"], unfollowed := true, recurses := true, apart := false, narrowed := true }
def PqmodelAcceptsUptoSaid : Prop := pqmodelAcceptsUptoRow.holds Try.pinned (OpenSpec.upto pqmodelAcceptsSpec)

/-- 'ropeladderlaw09.WorkloadMatchesReference', WHERE WHAT IT READS IS OF BULK AT MOST 1048576: true; the input reads as it did. -/
def workloadMatchesReferenceUptoRow : OpenClaim := { program := "ytmihhkcbbdpnaaa", sum := "d3b399fa7a9a32611e1a145e3e315652741ff3ebd24c3fb7675d67d95e059873", func := "ropeladder/ropeladderlaw09.WorkloadMatchesReference", spec := "workloadMatchesReference", inPlace := ["slices.overlaps[ropeladder/api.Item]"], unfollowed := true, recurses := true, apart := false, narrowed := true }
def WorkloadMatchesReferenceUptoSaid : Prop := workloadMatchesReferenceUptoRow.holds Try.pinned (OpenSpec.upto workloadMatchesReferenceSpec)

/-- 'ropeladderlaw09.WorkloadBounds', WHERE WHAT IT READS IS OF BULK AT MOST 1048576: true; the input reads as it did. -/
def workloadBoundsUptoRow : OpenClaim := { program := "ytmihhkcbbdpnaaa", sum := "d3b399fa7a9a32611e1a145e3e315652741ff3ebd24c3fb7675d67d95e059873", func := "ropeladder/ropeladderlaw09.WorkloadBounds", spec := "workloadBounds", inPlace := ["slices.overlaps[ropeladder/api.Item]"], unfollowed := true, recurses := true, apart := false, narrowed := true }
def WorkloadBoundsUptoSaid : Prop := workloadBoundsUptoRow.holds Try.pinned (OpenSpec.upto workloadBoundsSpec)

/-- 'ropeladderlaw09.WorkloadEquivalent', WHERE WHAT IT READS IS OF BULK AT MOST 1048576: true; the input reads as it did. -/
def workloadEquivalentUptoRow : OpenClaim := { program := "ytmihhkcbbdpnaaa", sum := "d3b399fa7a9a32611e1a145e3e315652741ff3ebd24c3fb7675d67d95e059873", func := "ropeladder/ropeladderlaw09.WorkloadEquivalent", spec := "workloadEquivalent", inPlace := ["slices.overlaps[ropeladder/api.Item]"], unfollowed := true, recurses := true, apart := false, narrowed := true }
def WorkloadEquivalentUptoSaid : Prop := workloadEquivalentUptoRow.holds Try.pinned (OpenSpec.upto workloadEquivalentSpec)

/-- 'ropeladderlaw09.WorkloadDrains', WHERE WHAT IT READS IS OF BULK AT MOST 1048576: true; the input reads as it did. -/
def workloadDrainsUptoRow : OpenClaim := { program := "ytmihhkcbbdpnaaa", sum := "d3b399fa7a9a32611e1a145e3e315652741ff3ebd24c3fb7675d67d95e059873", func := "ropeladder/ropeladderlaw09.WorkloadDrains", spec := "workloadDrains", inPlace := ["slices.overlaps[ropeladder/api.Item]"], unfollowed := true, recurses := true, apart := false, narrowed := true }
def WorkloadDrainsUptoSaid : Prop := workloadDrainsUptoRow.holds Try.pinned (OpenSpec.upto workloadDrainsSpec)

/-- 'ropeladderlaw09.WorkloadShifted', WHERE WHAT IT READS IS OF BULK AT MOST 1048576: true; the input reads as it did. -/
def workloadShiftedUptoRow : OpenClaim := { program := "ytmihhkcbbdpnaaa", sum := "d3b399fa7a9a32611e1a145e3e315652741ff3ebd24c3fb7675d67d95e059873", func := "ropeladder/ropeladderlaw09.WorkloadShifted", spec := "workloadShifted", inPlace := ["slices.overlaps[ropeladder/api.Item]"], unfollowed := true, recurses := true, apart := false, narrowed := true }
def WorkloadShiftedUptoSaid : Prop := workloadShiftedUptoRow.holds Try.pinned (OpenSpec.upto workloadShiftedSpec)

/-- 'ropeladderlaw08.LadderInvariant', WHERE WHAT IT READS IS OF BULK AT MOST 1048576: true; the input reads as it did. -/
def ladderInvariantUptoRow : OpenClaim := { program := "ytmihhkcbbdpnaaa", sum := "d3b399fa7a9a32611e1a145e3e315652741ff3ebd24c3fb7675d67d95e059873", func := "ropeladder/ropeladderlaw08.LadderInvariant", spec := "ladderInvariant", inPlace := ["slices.overlaps[ropeladder/api.Item]"], unfollowed := true, recurses := true, apart := false, narrowed := true }
def LadderInvariantUptoSaid : Prop := ladderInvariantUptoRow.holds Try.pinned (OpenSpec.upto ladderInvariantSpec)

/-- 'ropeladderlaw08.LadderSorts', WHERE WHAT IT READS IS OF BULK AT MOST 1048576: true; the input reads as it did. -/
def ladderSortsUptoRow : OpenClaim := { program := "ytmihhkcbbdpnaaa", sum := "d3b399fa7a9a32611e1a145e3e315652741ff3ebd24c3fb7675d67d95e059873", func := "ropeladder/ropeladderlaw08.LadderSorts", spec := "ladderSorts", inPlace := ["slices.overlaps[ropeladder/api.Item]"], unfollowed := true, recurses := true, apart := false, narrowed := true }
def LadderSortsUptoSaid : Prop := ladderSortsUptoRow.holds Try.pinned (OpenSpec.upto ladderSortsSpec)

/-- 'ropeladderlaw08.LadderModel', WHERE WHAT IT READS IS OF BULK AT MOST 1048576: true; the input reads as it did. -/
def ladderModelUptoRow : OpenClaim := { program := "ytmihhkcbbdpnaaa", sum := "d3b399fa7a9a32611e1a145e3e315652741ff3ebd24c3fb7675d67d95e059873", func := "ropeladder/ropeladderlaw08.LadderModel", spec := "ladderModel", inPlace := ["slices.overlaps[ropeladder/api.Item]"], unfollowed := true, recurses := true, apart := false, narrowed := true }
def LadderModelUptoSaid : Prop := ladderModelUptoRow.holds Try.pinned (OpenSpec.upto ladderModelSpec)

/-- 'ropeladderlaw08.LadderPeeks', WHERE WHAT IT READS IS OF BULK AT MOST 1048576: true; the input reads as it did. -/
def ladderPeeksUptoRow : OpenClaim := { program := "ytmihhkcbbdpnaaa", sum := "d3b399fa7a9a32611e1a145e3e315652741ff3ebd24c3fb7675d67d95e059873", func := "ropeladder/ropeladderlaw08.LadderPeeks", spec := "ladderPeeks", inPlace := ["slices.overlaps[ropeladder/api.Item]"], unfollowed := true, recurses := true, apart := false, narrowed := true }
def LadderPeeksUptoSaid : Prop := ladderPeeksUptoRow.holds Try.pinned (OpenSpec.upto ladderPeeksSpec)

/-- 'ropeladderlaw08.LadderMoves', WHERE WHAT IT READS IS OF BULK AT MOST 1048576: true; the input reads as it did. -/
def ladderMovesUptoRow : OpenClaim := { program := "ytmihhkcbbdpnaaa", sum := "d3b399fa7a9a32611e1a145e3e315652741ff3ebd24c3fb7675d67d95e059873", func := "ropeladder/ropeladderlaw08.LadderMoves", spec := "ladderMoves", inPlace := ["slices.overlaps[ropeladder/api.Item]"], unfollowed := true, recurses := true, apart := false, narrowed := true }
def LadderMovesUptoSaid : Prop := ladderMovesUptoRow.holds Try.pinned (OpenSpec.upto ladderMovesSpec)

/-- 'ropeladderlaw08.LadderRoutes', WHERE WHAT IT READS IS OF BULK AT MOST 1048576: true; the input reads as it did. -/
def ladderRoutesUptoRow : OpenClaim := { program := "ytmihhkcbbdpnaaa", sum := "d3b399fa7a9a32611e1a145e3e315652741ff3ebd24c3fb7675d67d95e059873", func := "ropeladder/ropeladderlaw08.LadderRoutes", spec := "ladderRoutes", inPlace := ["slices.overlaps[ropeladder/api.Item]"], unfollowed := true, recurses := true, apart := false, narrowed := true }
def LadderRoutesUptoSaid : Prop := ladderRoutesUptoRow.holds Try.pinned (OpenSpec.upto ladderRoutesSpec)

end Rows
end Go.Proofs.Ytmihhkcbbdpnaaa
