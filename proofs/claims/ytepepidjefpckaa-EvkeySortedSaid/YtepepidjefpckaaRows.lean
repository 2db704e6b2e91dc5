/-
  No cell of these rows narrows 'for every input' (looked for: loops, veiled, ifaces, maps, wideKeys, modest, calm, conditions, laid).
  DERIVED. THE GIVEN ROWS OF THIS SEAT. 11 by the template 'for every input the law returns true; each argument reads behind the call as it read before'; 0 by the template 'total and deterministic' (their statements: YtepepidjefpckaaTotals.lean).
  GIVEN WITH THE SEED: the statements are not yours to turn. If you find one false, say at which input.
  Laid BY PROGRAM, IN A SANDBOX (cutbox-rows.mjs): the forced cells as the released guide's own fill.sh prints them over the translation 9e37e4675b2773aa… (all of the seat's roots in one cut). By AI agents, Wed Nov 11 2026. No macro, syntax, notation, axiom, sorry.
-/
import Derived.Test.YtepepidjefpckaaChecked
import GoSem.Claim
import GoSem.ClaimJoined
import GoSem.ClaimMapViews
import Derived.JoinedTies
import Derived.KernelRfl
namespace Go.Proofs.Ytepepidjefpckaa
/- THE CELL 'sum', in the pinned program and in every row, IS THE sha256 OF THE DUMP (.gsa) THAT YtepepidjefpckaaProg.lean LOADS. Nothing in Lean hashes anything: it is a label: what it is worth is what the hold of that sum in a sandbox is worth. -/
noncomputable def Try.pinned : Pinned := { name := "ytepepidjefpckaa", sum := "9e37e4675b2773aa1243013fd9b97e6cdf621ca9db1a298de02006882e314672", checked := Try.checked }
namespace Rows
def none {H : Type} : Left H := { results := [], args := [] }

/-- 'ropeladderlaw04.HandleMatchesReference': WHATEVER THE INPUT: true; the input reads as it did. -/
def handleMatchesReferenceSpec : ChangeSpec := { name := "handleMatchesReference", fn := fun _ => fun
  | [d1, d2, d3, d4] => { results := [.lit (.bool true)], args := [d1, d2, d3, d4] }
  | _ => none }
def handleMatchesReferenceRow : OpenClaim := { program := "ytepepidjefpckaa", sum := "9e37e4675b2773aa1243013fd9b97e6cdf621ca9db1a298de02006882e314672", func := "ropeladder/ropeladderlaw04.HandleMatchesReference", spec := "handleMatchesReference", unfollowed := true, recurses := true, apart := false }
def HandleMatchesReferenceSaid : Prop := handleMatchesReferenceRow.holds Try.pinned (OpenSpec.ofChange handleMatchesReferenceSpec)

/-- ITS FALSE NEIGHBOUR: 'it returns false'. Refute it at one input. -/
def handleMatchesReferenceWrong : ChangeSpec := { name := "handleMatchesReference", fn := fun _ => fun
  | [d1, d2, d3, d4] => { results := [.lit (.bool false)], args := [d1, d2, d3, d4] }
  | _ => none }
def HandleMatchesReferenceWrongFalsely : Prop := handleMatchesReferenceRow.holds Try.pinned (OpenSpec.ofChange handleMatchesReferenceWrong)

/-- 'ropeladderlaw04.HandleRoundTrip': WHATEVER THE INPUT: true; the input reads as it did. -/
def handleRoundTripSpec : ChangeSpec := { name := "handleRoundTrip", fn := fun _ => fun
  | [d1, d2, d3] => { results := [.lit (.bool true)], args := [d1, d2, d3] }
  | _ => none }
def handleRoundTripRow : OpenClaim := { program := "ytepepidjefpckaa", sum := "9e37e4675b2773aa1243013fd9b97e6cdf621ca9db1a298de02006882e314672", func := "ropeladder/ropeladderlaw04.HandleRoundTrip", spec := "handleRoundTrip", unfollowed := true, recurses := true, apart := false }
def HandleRoundTripSaid : Prop := handleRoundTripRow.holds Try.pinned (OpenSpec.ofChange handleRoundTripSpec)

/-- ITS FALSE NEIGHBOUR: 'it returns false'. Refute it at one input. -/
def handleRoundTripWrong : ChangeSpec := { name := "handleRoundTrip", fn := fun _ => fun
  | [d1, d2, d3] => { results := [.lit (.bool false)], args := [d1, d2, d3] }
  | _ => none }
def HandleRoundTripWrongFalsely : Prop := handleRoundTripRow.holds Try.pinned (OpenSpec.ofChange handleRoundTripWrong)

/-- 'ropeladderlaw04.HandleUnpack': WHATEVER THE INPUT: true; the input reads as it did. -/
def handleUnpackSpec : ChangeSpec := { name := "handleUnpack", fn := fun _ => fun
  | [d] => { results := [.lit (.bool true)], args := [d] }
  | _ => none }
def handleUnpackRow : OpenClaim := { program := "ytepepidjefpckaa", sum := "9e37e4675b2773aa1243013fd9b97e6cdf621ca9db1a298de02006882e314672", func := "ropeladder/ropeladderlaw04.HandleUnpack", spec := "handleUnpack", unfollowed := true, recurses := true, apart := false }
def HandleUnpackSaid : Prop := handleUnpackRow.holds Try.pinned (OpenSpec.ofChange handleUnpackSpec)

/-- ITS FALSE NEIGHBOUR: 'it returns false'. Refute it at one input. -/
def handleUnpackWrong : ChangeSpec := { name := "handleUnpack", fn := fun _ => fun
  | [d] => { results := [.lit (.bool false)], args := [d] }
  | _ => none }
def HandleUnpackWrongFalsely : Prop := handleUnpackRow.holds Try.pinned (OpenSpec.ofChange handleUnpackWrong)

/-- 'ropeladderlaw04.HandleDistinct': WHATEVER THE INPUT: true; the input reads as it did. -/
def handleDistinctSpec : ChangeSpec := { name := "handleDistinct", fn := fun _ => fun
  | [d1, d2, d3, d4] => { results := [.lit (.bool true)], args := [d1, d2, d3, d4] }
  | _ => none }
def handleDistinctRow : OpenClaim := { program := "ytepepidjefpckaa", sum := "9e37e4675b2773aa1243013fd9b97e6cdf621ca9db1a298de02006882e314672", func := "ropeladder/ropeladderlaw04.HandleDistinct", spec := "handleDistinct", unfollowed := true, recurses := true, apart := false }
def HandleDistinctSaid : Prop := handleDistinctRow.holds Try.pinned (OpenSpec.ofChange handleDistinctSpec)

/-- ITS FALSE NEIGHBOUR: 'it returns false'. Refute it at one input. -/
def handleDistinctWrong : ChangeSpec := { name := "handleDistinct", fn := fun _ => fun
  | [d1, d2, d3, d4] => { results := [.lit (.bool false)], args := [d1, d2, d3, d4] }
  | _ => none }
def HandleDistinctWrongFalsely : Prop := handleDistinctRow.holds Try.pinned (OpenSpec.ofChange handleDistinctWrong)

/-- 'ropeladderlaw04.HandleOrder': WHATEVER THE INPUT: true; the input reads as it did. -/
def handleOrderSpec : ChangeSpec := { name := "handleOrder", fn := fun _ => fun
  | [d1, d2, d3, d4] => { results := [.lit (.bool true)], args := [d1, d2, d3, d4] }
  | _ => none }
def handleOrderRow : OpenClaim := { program := "ytepepidjefpckaa", sum := "9e37e4675b2773aa1243013fd9b97e6cdf621ca9db1a298de02006882e314672", func := "ropeladder/ropeladderlaw04.HandleOrder", spec := "handleOrder", unfollowed := true, recurses := true, apart := false }
def HandleOrderSaid : Prop := handleOrderRow.holds Try.pinned (OpenSpec.ofChange handleOrderSpec)

/-- ITS FALSE NEIGHBOUR: 'it returns false'. Refute it at one input. -/
def handleOrderWrong : ChangeSpec := { name := "handleOrder", fn := fun _ => fun
  | [d1, d2, d3, d4] => { results := [.lit (.bool false)], args := [d1, d2, d3, d4] }
  | _ => none }
def HandleOrderWrongFalsely : Prop := handleOrderRow.holds Try.pinned (OpenSpec.ofChange handleOrderWrong)

/-- 'ropeladderlaw03.EvkeyMatchesReference': WHATEVER THE INPUT: true; the input reads as it did. -/
def evkeyMatchesReferenceSpec : ChangeSpec := { name := "evkeyMatchesReference", fn := fun _ => fun
  | [d1, d2, d3, d4, d5, d6] => { results := [.lit (.bool true)], args := [d1, d2, d3, d4, d5, d6] }
  | _ => none }
def evkeyMatchesReferenceRow : OpenClaim := { program := "ytepepidjefpckaa", sum := "9e37e4675b2773aa1243013fd9b97e6cdf621ca9db1a298de02006882e314672", func := "ropeladder/ropeladderlaw03.EvkeyMatchesReference", spec := "evkeyMatchesReference", unfollowed := true, recurses := true, apart := false }
def EvkeyMatchesReferenceSaid : Prop := evkeyMatchesReferenceRow.holds Try.pinned (OpenSpec.ofChange evkeyMatchesReferenceSpec)

/-- ITS FALSE NEIGHBOUR: 'it returns false'. Refute it at one input. -/
def evkeyMatchesReferenceWrong : ChangeSpec := { name := "evkeyMatchesReference", fn := fun _ => fun
  | [d1, d2, d3, d4, d5, d6] => { results := [.lit (.bool false)], args := [d1, d2, d3, d4, d5, d6] }
  | _ => none }
def EvkeyMatchesReferenceWrongFalsely : Prop := evkeyMatchesReferenceRow.holds Try.pinned (OpenSpec.ofChange evkeyMatchesReferenceWrong)

/-- 'ropeladderlaw03.EvkeyItems': WHATEVER THE INPUT: true; the input reads as it did. -/
def evkeyItemsSpec : ChangeSpec := { name := "evkeyItems", fn := fun _ => fun
  | [d1, d2, d3] => { results := [.lit (.bool true)], args := [d1, d2, d3] }
  | _ => none }
def evkeyItemsRow : OpenClaim := { program := "ytepepidjefpckaa", sum := "9e37e4675b2773aa1243013fd9b97e6cdf621ca9db1a298de02006882e314672", func := "ropeladder/ropeladderlaw03.EvkeyItems", spec := "evkeyItems", unfollowed := true, recurses := true, apart := false }
def EvkeyItemsSaid : Prop := evkeyItemsRow.holds Try.pinned (OpenSpec.ofChange evkeyItemsSpec)

/-- ITS FALSE NEIGHBOUR: 'it returns false'. Refute it at one input. -/
def evkeyItemsWrong : ChangeSpec := { name := "evkeyItems", fn := fun _ => fun
  | [d1, d2, d3] => { results := [.lit (.bool false)], args := [d1, d2, d3] }
  | _ => none }
def EvkeyItemsWrongFalsely : Prop := evkeyItemsRow.holds Try.pinned (OpenSpec.ofChange evkeyItemsWrong)

/-- 'ropeladderlaw03.EvkeyKeys': WHATEVER THE INPUT: true; the input reads as it did. -/
def evkeyKeysSpec : ChangeSpec := { name := "evkeyKeys", fn := fun _ => fun
  | [d1, d2, d3] => { results := [.lit (.bool true)], args := [d1, d2, d3] }
  | _ => none }
def evkeyKeysRow : OpenClaim := { program := "ytepepidjefpckaa", sum := "9e37e4675b2773aa1243013fd9b97e6cdf621ca9db1a298de02006882e314672", func := "ropeladder/ropeladderlaw03.EvkeyKeys", spec := "evkeyKeys", unfollowed := true, recurses := true, apart := false }
def EvkeyKeysSaid : Prop := evkeyKeysRow.holds Try.pinned (OpenSpec.ofChange evkeyKeysSpec)

/-- ITS FALSE NEIGHBOUR: 'it returns false'. Refute it at one input. -/
def evkeyKeysWrong : ChangeSpec := { name := "evkeyKeys", fn := fun _ => fun
  | [d1, d2, d3] => { results := [.lit (.bool false)], args := [d1, d2, d3] }
  | _ => none }
def EvkeyKeysWrongFalsely : Prop := evkeyKeysRow.holds Try.pinned (OpenSpec.ofChange evkeyKeysWrong)

/-- 'ropeladderlaw03.EvkeyChildren': WHATEVER THE INPUT: true; the input reads as it did. -/
def evkeyChildrenSpec : ChangeSpec := { name := "evkeyChildren", fn := fun _ => fun
  | [d1, d2, d3, d4] => { results := [.lit (.bool true)], args := [d1, d2, d3, d4] }
  | _ => none }
def evkeyChildrenRow : OpenClaim := { program := "ytepepidjefpckaa", sum := "9e37e4675b2773aa1243013fd9b97e6cdf621ca9db1a298de02006882e314672", func := "ropeladder/ropeladderlaw03.EvkeyChildren", spec := "evkeyChildren", unfollowed := true, recurses := true, apart := false }
def EvkeyChildrenSaid : Prop := evkeyChildrenRow.holds Try.pinned (OpenSpec.ofChange evkeyChildrenSpec)

/-- ITS FALSE NEIGHBOUR: 'it returns false'. Refute it at one input. -/
def evkeyChildrenWrong : ChangeSpec := { name := "evkeyChildren", fn := fun _ => fun
  | [d1, d2, d3, d4] => { results := [.lit (.bool false)], args := [d1, d2, d3, d4] }
  | _ => none }
def EvkeyChildrenWrongFalsely : Prop := evkeyChildrenRow.holds Try.pinned (OpenSpec.ofChange evkeyChildrenWrong)

/-- 'ropeladderlaw03.EvkeySorted': WHATEVER THE INPUT: true; the input reads as it did. -/
def evkeySortedSpec : ChangeSpec := { name := "evkeySorted", fn := fun _ => fun
  | [d] => { results := [.lit (.bool true)], args := [d] }
  | _ => none }
def evkeySortedRow : OpenClaim := { program := "ytepepidjefpckaa", sum := "9e37e4675b2773aa1243013fd9b97e6cdf621ca9db1a298de02006882e314672", func := "ropeladder/ropeladderlaw03.EvkeySorted", spec := "evkeySorted", unfollowed := true, recurses := true, apart := false }
def EvkeySortedSaid : Prop := evkeySortedRow.holds Try.pinned (OpenSpec.ofChange evkeySortedSpec)

/-- ITS FALSE NEIGHBOUR: 'it returns false'. Refute it at one input. -/
def evkeySortedWrong : ChangeSpec := { name := "evkeySorted", fn := fun _ => fun
  | [d] => { results := [.lit (.bool false)], args := [d] }
  | _ => none }
def EvkeySortedWrongFalsely : Prop := evkeySortedRow.holds Try.pinned (OpenSpec.ofChange evkeySortedWrong)

/-- 'ropeladderlaw03.EvkeyEvents': WHATEVER THE INPUT: true; the input reads as it did. -/
def evkeyEventsSpec : ChangeSpec := { name := "evkeyEvents", fn := fun _ => fun
  | [d1, d2, d3] => { results := [.lit (.bool true)], args := [d1, d2, d3] }
  | _ => none }
def evkeyEventsRow : OpenClaim := { program := "ytepepidjefpckaa", sum := "9e37e4675b2773aa1243013fd9b97e6cdf621ca9db1a298de02006882e314672", func := "ropeladder/ropeladderlaw03.EvkeyEvents", spec := "evkeyEvents", unfollowed := true, recurses := true, apart := false }
def EvkeyEventsSaid : Prop := evkeyEventsRow.holds Try.pinned (OpenSpec.ofChange evkeyEventsSpec)

/-- ITS FALSE NEIGHBOUR: 'it returns false'. Refute it at one input. -/
def evkeyEventsWrong : ChangeSpec := { name := "evkeyEvents", fn := fun _ => fun
  | [d1, d2, d3] => { results := [.lit (.bool false)], args := [d1, d2, d3] }
  | _ => none }
def EvkeyEventsWrongFalsely : Prop := evkeyEventsRow.holds Try.pinned (OpenSpec.ofChange evkeyEventsWrong)

/- THE SECOND FORM. 'bulk': how many values and letters a reading holds, each counted each time it is reached (what is shared counts as often as it is met; a slice's spare places count too). A statement '..UptoSaid' is the law's where the arguments, and the package variables that the reading takes, are together of bulk at most 1048576: NARROWER than '..Said'. Prove '..Said' where nothing that the law and all that it calls make is longer than what came in: it says more and counts as full. Else prove '..UptoSaid'. A law counts once. -/
mutual
def uptoBulk {H : Type} : DataW H → Nat
  | .lit (.string bytes) => bytes.length + 1
  | .lit _ => 1
  | .nil => 1
  | .ptr d => uptoBulk d + 1
  | .slice elems spare => uptoBulkAll elems + uptoBulkAll spare + 1
  | .agg parts => uptoBulkAll parts + 1
  | .iface _ d => uptoBulk d + 1
  | .map entries => uptoBulkEntries entries + 1
  | .held _ => 1
def uptoBulkAll {H : Type} : List (DataW H) → Nat
  | [] => 0
  | d :: r => uptoBulk d + uptoBulkAll r
def uptoBulkEntries {H : Type} : List (Lit × DataW H) → Nat
  | [] => 0
  | x :: r => uptoBulkEntry x + uptoBulkEntries r
def uptoBulkEntry {H : Type} : Lit × DataW H → Nat
  | (.string bytes, d) => bytes.length + uptoBulk d + 1
  | (_, d) => uptoBulk d + 1
 end
def uptoSmall : (H : Type) → List (DataW H) → Bool := fun _ ds => decide (uptoBulkAll ds ≤ 1048576)
def OpenSpec.upto (s : _root_.Go.ChangeSpec) : _root_.Go.OpenSpec := { _root_.Go.OpenSpec.ofChange s with cond := some uptoSmall }

/-- 'ropeladderlaw04.HandleMatchesReference', WHERE WHAT IT READS IS OF BULK AT MOST 1048576: true; the input reads as it did. -/
def handleMatchesReferenceUptoRow : OpenClaim := { program := "ytepepidjefpckaa", sum := "9e37e4675b2773aa1243013fd9b97e6cdf621ca9db1a298de02006882e314672", func := "ropeladder/ropeladderlaw04.HandleMatchesReference", spec := "handleMatchesReference", unfollowed := true, recurses := true, apart := false, narrowed := true }
def HandleMatchesReferenceUptoSaid : Prop := handleMatchesReferenceUptoRow.holds Try.pinned (OpenSpec.upto handleMatchesReferenceSpec)

/-- 'ropeladderlaw04.HandleRoundTrip', WHERE WHAT IT READS IS OF BULK AT MOST 1048576: true; the input reads as it did. -/
def handleRoundTripUptoRow : OpenClaim := { program := "ytepepidjefpckaa", sum := "9e37e4675b2773aa1243013fd9b97e6cdf621ca9db1a298de02006882e314672", func := "ropeladder/ropeladderlaw04.HandleRoundTrip", spec := "handleRoundTrip", unfollowed := true, recurses := true, apart := false, narrowed := true }
def HandleRoundTripUptoSaid : Prop := handleRoundTripUptoRow.holds Try.pinned (OpenSpec.upto handleRoundTripSpec)

/-- 'ropeladderlaw04.HandleUnpack', WHERE WHAT IT READS IS OF BULK AT MOST 1048576: true; the input reads as it did. -/
def handleUnpackUptoRow : OpenClaim := { program := "ytepepidjefpckaa", sum := "9e37e4675b2773aa1243013fd9b97e6cdf621ca9db1a298de02006882e314672", func := "ropeladder/ropeladderlaw04.HandleUnpack", spec := "handleUnpack", unfollowed := true, recurses := true, apart := false, narrowed := true }
def HandleUnpackUptoSaid : Prop := handleUnpackUptoRow.holds Try.pinned (OpenSpec.upto handleUnpackSpec)

/-- 'ropeladderlaw04.HandleDistinct', WHERE WHAT IT READS IS OF BULK AT MOST 1048576: true; the input reads as it did. -/
def handleDistinctUptoRow : OpenClaim := { program := "ytepepidjefpckaa", sum := "9e37e4675b2773aa1243013fd9b97e6cdf621ca9db1a298de02006882e314672", func := "ropeladder/ropeladderlaw04.HandleDistinct", spec := "handleDistinct", unfollowed := true, recurses := true, apart := false, narrowed := true }
def HandleDistinctUptoSaid : Prop := handleDistinctUptoRow.holds Try.pinned (OpenSpec.upto handleDistinctSpec)

/-- 'ropeladderlaw04.HandleOrder', WHERE WHAT IT READS IS OF BULK AT MOST 1048576: true; the input reads as it did. -/
def handleOrderUptoRow : OpenClaim := { program := "ytepepidjefpckaa", sum := "9e37e4675b2773aa1243013fd9b97e6cdf621ca9db1a298de02006882e314672", func := "ropeladder/ropeladderlaw04.HandleOrder", spec := "handleOrder", unfollowed := true, recurses := true, apart := false, narrowed := true }
def HandleOrderUptoSaid : Prop := handleOrderUptoRow.holds Try.pinned (OpenSpec.upto handleOrderSpec)

/-- 'ropeladderlaw03.EvkeyMatchesReference', WHERE WHAT IT READS IS OF BULK AT MOST 1048576: true; the input reads as it did. -/
def evkeyMatchesReferenceUptoRow : OpenClaim := { program := "ytepepidjefpckaa", sum := "9e37e4675b2773aa1243013fd9b97e6cdf621ca9db1a298de02006882e314672", func := "ropeladder/ropeladderlaw03.EvkeyMatchesReference", spec := "evkeyMatchesReference", unfollowed := true, recurses := true, apart := false, narrowed := true }
def EvkeyMatchesReferenceUptoSaid : Prop := evkeyMatchesReferenceUptoRow.holds Try.pinned (OpenSpec.upto evkeyMatchesReferenceSpec)

/-- 'ropeladderlaw03.EvkeyItems', WHERE WHAT IT READS IS OF BULK AT MOST 1048576: true; the input reads as it did. -/
def evkeyItemsUptoRow : OpenClaim := { program := "ytepepidjefpckaa", sum := "9e37e4675b2773aa1243013fd9b97e6cdf621ca9db1a298de02006882e314672", func := "ropeladder/ropeladderlaw03.EvkeyItems", spec := "evkeyItems", unfollowed := true, recurses := true, apart := false, narrowed := true }
def EvkeyItemsUptoSaid : Prop := evkeyItemsUptoRow.holds Try.pinned (OpenSpec.upto evkeyItemsSpec)

/-- 'ropeladderlaw03.EvkeyKeys', WHERE WHAT IT READS IS OF BULK AT MOST 1048576: true; the input reads as it did. -/
def evkeyKeysUptoRow : OpenClaim := { program := "ytepepidjefpckaa", sum := "9e37e4675b2773aa1243013fd9b97e6cdf621ca9db1a298de02006882e314672", func := "ropeladder/ropeladderlaw03.EvkeyKeys", spec := "evkeyKeys", unfollowed := true, recurses := true, apart := false, narrowed := true }
def EvkeyKeysUptoSaid : Prop := evkeyKeysUptoRow.holds Try.pinned (OpenSpec.upto evkeyKeysSpec)

/-- 'ropeladderlaw03.EvkeyChildren', WHERE WHAT IT READS IS OF BULK AT MOST 1048576: true; the input reads as it did. -/
def evkeyChildrenUptoRow : OpenClaim := { program := "ytepepidjefpckaa", sum := "9e37e4675b2773aa1243013fd9b97e6cdf621ca9db1a298de02006882e314672", func := "ropeladder/ropeladderlaw03.EvkeyChildren", spec := "evkeyChildren", unfollowed := true, recurses := true, apart := false, narrowed := true }
def EvkeyChildrenUptoSaid : Prop := evkeyChildrenUptoRow.holds Try.pinned (OpenSpec.upto evkeyChildrenSpec)

/-- 'ropeladderlaw03.EvkeySorted', WHERE WHAT IT READS IS OF BULK AT MOST 1048576: true; the input reads as it did. -/
def evkeySortedUptoRow : OpenClaim := { program := "ytepepidjefpckaa", sum := "9e37e4675b2773aa1243013fd9b97e6cdf621ca9db1a298de02006882e314672", func := "ropeladder/ropeladderlaw03.EvkeySorted", spec := "evkeySorted", unfollowed := true, recurses := true, apart := false, narrowed := true }
def EvkeySortedUptoSaid : Prop := evkeySortedUptoRow.holds Try.pinned (OpenSpec.upto evkeySortedSpec)

/-- 'ropeladderlaw03.EvkeyEvents', WHERE WHAT IT READS IS OF BULK AT MOST 1048576: true; the input reads as it did. -/
def evkeyEventsUptoRow : OpenClaim := { program := "ytepepidjefpckaa", sum := "9e37e4675b2773aa1243013fd9b97e6cdf621ca9db1a298de02006882e314672", func := "ropeladder/ropeladderlaw03.EvkeyEvents", spec := "evkeyEvents", unfollowed := true, recurses := true, apart := false, narrowed := true }
def EvkeyEventsUptoSaid : Prop := evkeyEventsUptoRow.holds Try.pinned (OpenSpec.upto evkeyEventsSpec)

end Rows
end Go.Proofs.Ytepepidjefpckaa
