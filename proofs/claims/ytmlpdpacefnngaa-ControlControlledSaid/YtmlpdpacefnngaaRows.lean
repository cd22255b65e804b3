/-
  No cell of these rows narrows 'for every input' (looked for: loops, veiled, ifaces, maps, wideKeys, modest, calm, conditions, laid).
  DERIVED. THE GIVEN ROWS OF THIS SEAT. 12 by the template 'for every input the law returns true; each argument reads behind the call as it read before'; 0 by the template 'total and deterministic' (their statements: YtmlpdpacefnngaaTotals.lean).
  GIVEN WITH THE SEED: the statements are not yours to turn. If you find one false, say at which input.
  Laid BY PROGRAM, IN A SANDBOX (cutbox-rows.mjs): the forced cells as the released guide's own fill.sh prints them over the translation 04b2f42bfb74602d… (all of the seat's roots in one cut). By AI agents, Wed Nov 11 2026. No macro, syntax, notation, axiom, sorry.
-/
import Derived.Test.YtmlpdpacefnngaaChecked
import GoSem.Claim
import GoSem.ClaimJoined
import GoSem.ClaimMapViews
import Derived.JoinedTies
import Derived.KernelRfl
namespace Go.Proofs.Ytmlpdpacefnngaa
/- THE CELL 'sum', in the pinned program and in every row, IS THE sha256 OF THE DUMP (.gsa) THAT YtmlpdpacefnngaaProg.lean LOADS. Nothing in Lean hashes anything: it is a label: what it is worth is what the hold of that sum in a sandbox is worth. -/
noncomputable def Try.pinned : Pinned := { name := "ytmlpdpacefnngaa", sum := "04b2f42bfb74602d1a64eb99ccfaf391290475e1461097da75386e4054a89fbe", checked := Try.checked }
namespace Rows
def none {H : Type} : Left H := { results := [], args := [] }

/-- 'tallystonelaw20.HoldingValid': WHATEVER THE INPUT: true; the input reads as it did. -/
def holdingValidSpec : ChangeSpec := { name := "holdingValid", fn := fun _ => fun
  | [d1, d2] => { results := [.lit (.bool true)], args := [d1, d2] }
  | _ => none }
def holdingValidRow : OpenClaim := { program := "ytmlpdpacefnngaa", sum := "04b2f42bfb74602d1a64eb99ccfaf391290475e1461097da75386e4054a89fbe", func := "tallystone/tallystonelaw20.HoldingValid", spec := "holdingValid", unfollowed := true, recurses := true, plainKeys := false, apart := false }
def HoldingValidSaid : Prop := holdingValidRow.holds Try.pinned (OpenSpec.ofChange holdingValidSpec)

/-- ITS FALSE NEIGHBOUR: 'it returns false'. Refute it at one input. -/
def holdingValidWrong : ChangeSpec := { name := "holdingValid", fn := fun _ => fun
  | [d1, d2] => { results := [.lit (.bool false)], args := [d1, d2] }
  | _ => none }
def HoldingValidWrongFalsely : Prop := holdingValidRow.holds Try.pinned (OpenSpec.ofChange holdingValidWrong)

/-- 'tallystonelaw20.HoldingAt': WHATEVER THE INPUT: true; the input reads as it did. -/
def holdingAtSpec : ChangeSpec := { name := "holdingAt", fn := fun _ => fun
  | [d1, d2, d3] => { results := [.lit (.bool true)], args := [d1, d2, d3] }
  | _ => none }
def holdingAtRow : OpenClaim := { program := "ytmlpdpacefnngaa", sum := "04b2f42bfb74602d1a64eb99ccfaf391290475e1461097da75386e4054a89fbe", func := "tallystone/tallystonelaw20.HoldingAt", spec := "holdingAt", unfollowed := true, recurses := true, plainKeys := false, apart := false }
def HoldingAtSaid : Prop := holdingAtRow.holds Try.pinned (OpenSpec.ofChange holdingAtSpec)

/-- ITS FALSE NEIGHBOUR: 'it returns false'. Refute it at one input. -/
def holdingAtWrong : ChangeSpec := { name := "holdingAt", fn := fun _ => fun
  | [d1, d2, d3] => { results := [.lit (.bool false)], args := [d1, d2, d3] }
  | _ => none }
def HoldingAtWrongFalsely : Prop := holdingAtRow.holds Try.pinned (OpenSpec.ofChange holdingAtWrong)

/-- 'tallystonelaw20.HoldingSet': WHATEVER THE INPUT: true; the input reads as it did. -/
def holdingSetSpec : ChangeSpec := { name := "holdingSet", fn := fun _ => fun
  | [d1, d2, d3] => { results := [.lit (.bool true)], args := [d1, d2, d3] }
  | _ => none }
def holdingSetRow : OpenClaim := { program := "ytmlpdpacefnngaa", sum := "04b2f42bfb74602d1a64eb99ccfaf391290475e1461097da75386e4054a89fbe", func := "tallystone/tallystonelaw20.HoldingSet", spec := "holdingSet", unfollowed := true, recurses := true, plainKeys := false, apart := false }
def HoldingSetSaid : Prop := holdingSetRow.holds Try.pinned (OpenSpec.ofChange holdingSetSpec)

/-- ITS FALSE NEIGHBOUR: 'it returns false'. Refute it at one input. -/
def holdingSetWrong : ChangeSpec := { name := "holdingSet", fn := fun _ => fun
  | [d1, d2, d3] => { results := [.lit (.bool false)], args := [d1, d2, d3] }
  | _ => none }
def HoldingSetWrongFalsely : Prop := holdingSetRow.holds Try.pinned (OpenSpec.ofChange holdingSetWrong)

/-- 'tallystonelaw20.HoldingTime': WHATEVER THE INPUT: true; the input reads as it did. -/
def holdingTimeSpec : ChangeSpec := { name := "holdingTime", fn := fun _ => fun
  | [d1, d2, d3] => { results := [.lit (.bool true)], args := [d1, d2, d3] }
  | _ => none }
def holdingTimeRow : OpenClaim := { program := "ytmlpdpacefnngaa", sum := "04b2f42bfb74602d1a64eb99ccfaf391290475e1461097da75386e4054a89fbe", func := "tallystone/tallystonelaw20.HoldingTime", spec := "holdingTime", unfollowed := true, recurses := true, plainKeys := false, apart := false }
def HoldingTimeSaid : Prop := holdingTimeRow.holds Try.pinned (OpenSpec.ofChange holdingTimeSpec)

/-- ITS FALSE NEIGHBOUR: 'it returns false'. Refute it at one input. -/
def holdingTimeWrong : ChangeSpec := { name := "holdingTime", fn := fun _ => fun
  | [d1, d2, d3] => { results := [.lit (.bool false)], args := [d1, d2, d3] }
  | _ => none }
def HoldingTimeWrongFalsely : Prop := holdingTimeRow.holds Try.pinned (OpenSpec.ofChange holdingTimeWrong)

/-- 'tallystonelaw20.HoldingKeeps': WHATEVER THE INPUT: true; the input reads as it did. -/
def holdingKeepsSpec : ChangeSpec := { name := "holdingKeeps", fn := fun _ => fun
  | [d1, d2, d3] => { results := [.lit (.bool true)], args := [d1, d2, d3] }
  | _ => none }
def holdingKeepsRow : OpenClaim := { program := "ytmlpdpacefnngaa", sum := "04b2f42bfb74602d1a64eb99ccfaf391290475e1461097da75386e4054a89fbe", func := "tallystone/tallystonelaw20.HoldingKeeps", spec := "holdingKeeps", unfollowed := true, recurses := true, plainKeys := false, apart := false }
def HoldingKeepsSaid : Prop := holdingKeepsRow.holds Try.pinned (OpenSpec.ofChange holdingKeepsSpec)

/-- ITS FALSE NEIGHBOUR: 'it returns false'. Refute it at one input. -/
def holdingKeepsWrong : ChangeSpec := { name := "holdingKeeps", fn := fun _ => fun
  | [d1, d2, d3] => { results := [.lit (.bool false)], args := [d1, d2, d3] }
  | _ => none }
def HoldingKeepsWrongFalsely : Prop := holdingKeepsRow.holds Try.pinned (OpenSpec.ofChange holdingKeepsWrong)

/-- 'tallystonelaw20.HoldingMatrix': WHATEVER THE INPUT: true; the input reads as it did. -/
def holdingMatrixSpec : ChangeSpec := { name := "holdingMatrix", fn := fun _ => fun
  | [d1, d2, d3] => { results := [.lit (.bool true)], args := [d1, d2, d3] }
  | _ => none }
def holdingMatrixRow : OpenClaim := { program := "ytmlpdpacefnngaa", sum := "04b2f42bfb74602d1a64eb99ccfaf391290475e1461097da75386e4054a89fbe", func := "tallystone/tallystonelaw20.HoldingMatrix", spec := "holdingMatrix", unfollowed := true, recurses := true, plainKeys := false, apart := false }
def HoldingMatrixSaid : Prop := holdingMatrixRow.holds Try.pinned (OpenSpec.ofChange holdingMatrixSpec)

/-- ITS FALSE NEIGHBOUR: 'it returns false'. Refute it at one input. -/
def holdingMatrixWrong : ChangeSpec := { name := "holdingMatrix", fn := fun _ => fun
  | [d1, d2, d3] => { results := [.lit (.bool false)], args := [d1, d2, d3] }
  | _ => none }
def HoldingMatrixWrongFalsely : Prop := holdingMatrixRow.holds Try.pinned (OpenSpec.ofChange holdingMatrixWrong)

/-- 'tallystonelaw20.HoldingOrder': WHATEVER THE INPUT: true; the input reads as it did. -/
def holdingOrderSpec : ChangeSpec := { name := "holdingOrder", fn := fun _ => fun
  | [d1, d2, d3] => { results := [.lit (.bool true)], args := [d1, d2, d3] }
  | _ => none }
def holdingOrderRow : OpenClaim := { program := "ytmlpdpacefnngaa", sum := "04b2f42bfb74602d1a64eb99ccfaf391290475e1461097da75386e4054a89fbe", func := "tallystone/tallystonelaw20.HoldingOrder", spec := "holdingOrder", unfollowed := true, recurses := true, plainKeys := false, apart := false }
def HoldingOrderSaid : Prop := holdingOrderRow.holds Try.pinned (OpenSpec.ofChange holdingOrderSpec)

/-- ITS FALSE NEIGHBOUR: 'it returns false'. Refute it at one input. -/
def holdingOrderWrong : ChangeSpec := { name := "holdingOrder", fn := fun _ => fun
  | [d1, d2, d3] => { results := [.lit (.bool false)], args := [d1, d2, d3] }
  | _ => none }
def HoldingOrderWrongFalsely : Prop := holdingOrderRow.holds Try.pinned (OpenSpec.ofChange holdingOrderWrong)

/-- 'tallystonelaw20.HoldingColumns': WHATEVER THE INPUT: true; the input reads as it did. -/
def holdingColumnsSpec : ChangeSpec := { name := "holdingColumns", fn := fun _ => fun
  | [d1, d2, d3] => { results := [.lit (.bool true)], args := [d1, d2, d3] }
  | _ => none }
def holdingColumnsRow : OpenClaim := { program := "ytmlpdpacefnngaa", sum := "04b2f42bfb74602d1a64eb99ccfaf391290475e1461097da75386e4054a89fbe", func := "tallystone/tallystonelaw20.HoldingColumns", spec := "holdingColumns", unfollowed := true, recurses := true, plainKeys := false, apart := false }
def HoldingColumnsSaid : Prop := holdingColumnsRow.holds Try.pinned (OpenSpec.ofChange holdingColumnsSpec)

/-- ITS FALSE NEIGHBOUR: 'it returns false'. Refute it at one input. -/
def holdingColumnsWrong : ChangeSpec := { name := "holdingColumns", fn := fun _ => fun
  | [d1, d2, d3] => { results := [.lit (.bool false)], args := [d1, d2, d3] }
  | _ => none }
def HoldingColumnsWrongFalsely : Prop := holdingColumnsRow.holds Try.pinned (OpenSpec.ofChange holdingColumnsWrong)

/-- 'tallystonelaw24.ControlControlled': WHATEVER THE INPUT: true; the input reads as it did. -/
def controlControlledSpec : ChangeSpec := { name := "controlControlled", fn := fun _ => fun
  | [d1, d2, d3] => { results := [.lit (.bool true)], args := [d1, d2, d3] }
  | _ => none }
def controlControlledRow : OpenClaim := { program := "ytmlpdpacefnngaa", sum := "04b2f42bfb74602d1a64eb99ccfaf391290475e1461097da75386e4054a89fbe", func := "tallystone/tallystonelaw24.ControlControlled", spec := "controlControlled", unfollowed := true, recurses := true, plainKeys := false, apart := false }
def ControlControlledSaid : Prop := controlControlledRow.holds Try.pinned (OpenSpec.ofChange controlControlledSpec)

/-- ITS FALSE NEIGHBOUR: 'it returns false'. Refute it at one input. -/
def controlControlledWrong : ChangeSpec := { name := "controlControlled", fn := fun _ => fun
  | [d1, d2, d3] => { results := [.lit (.bool false)], args := [d1, d2, d3] }
  | _ => none }
def ControlControlledWrongFalsely : Prop := controlControlledRow.holds Try.pinned (OpenSpec.ofChange controlControlledWrong)

/-- 'tallystonelaw24.ControlLeast': WHATEVER THE INPUT: true; the input reads as it did. -/
def controlLeastSpec : ChangeSpec := { name := "controlLeast", fn := fun _ => fun
  | [d1, d2, d3] => { results := [.lit (.bool true)], args := [d1, d2, d3] }
  | _ => none }
def controlLeastRow : OpenClaim := { program := "ytmlpdpacefnngaa", sum := "04b2f42bfb74602d1a64eb99ccfaf391290475e1461097da75386e4054a89fbe", func := "tallystone/tallystonelaw24.ControlLeast", spec := "controlLeast", unfollowed := true, recurses := true, plainKeys := false, apart := false }
def ControlLeastSaid : Prop := controlLeastRow.holds Try.pinned (OpenSpec.ofChange controlLeastSpec)

/-- ITS FALSE NEIGHBOUR: 'it returns false'. Refute it at one input. -/
def controlLeastWrong : ChangeSpec := { name := "controlLeast", fn := fun _ => fun
  | [d1, d2, d3] => { results := [.lit (.bool false)], args := [d1, d2, d3] }
  | _ => none }
def ControlLeastWrongFalsely : Prop := controlLeastRow.holds Try.pinned (OpenSpec.ofChange controlLeastWrong)

/-- 'tallystonelaw24.ControlGrows': WHATEVER THE INPUT: true; the input reads as it did. -/
def controlGrowsSpec : ChangeSpec := { name := "controlGrows", fn := fun _ => fun
  | [d1, d2, d3] => { results := [.lit (.bool true)], args := [d1, d2, d3] }
  | _ => none }
def controlGrowsRow : OpenClaim := { program := "ytmlpdpacefnngaa", sum := "04b2f42bfb74602d1a64eb99ccfaf391290475e1461097da75386e4054a89fbe", func := "tallystone/tallystonelaw24.ControlGrows", spec := "controlGrows", unfollowed := true, recurses := true, plainKeys := false, apart := false }
def ControlGrowsSaid : Prop := controlGrowsRow.holds Try.pinned (OpenSpec.ofChange controlGrowsSpec)

/-- ITS FALSE NEIGHBOUR: 'it returns false'. Refute it at one input. -/
def controlGrowsWrong : ChangeSpec := { name := "controlGrows", fn := fun _ => fun
  | [d1, d2, d3] => { results := [.lit (.bool false)], args := [d1, d2, d3] }
  | _ => none }
def ControlGrowsWrongFalsely : Prop := controlGrowsRow.holds Try.pinned (OpenSpec.ofChange controlGrowsWrong)

/-- 'tallystonelaw24.ControlRank': WHATEVER THE INPUT: true; the input reads as it did. -/
def controlRankSpec : ChangeSpec := { name := "controlRank", fn := fun _ => fun
  | [d1, d2, d3] => { results := [.lit (.bool true)], args := [d1, d2, d3] }
  | _ => none }
def controlRankRow : OpenClaim := { program := "ytmlpdpacefnngaa", sum := "04b2f42bfb74602d1a64eb99ccfaf391290475e1461097da75386e4054a89fbe", func := "tallystone/tallystonelaw24.ControlRank", spec := "controlRank", unfollowed := true, recurses := true, plainKeys := false, apart := false }
def ControlRankSaid : Prop := controlRankRow.holds Try.pinned (OpenSpec.ofChange controlRankSpec)

/-- ITS FALSE NEIGHBOUR: 'it returns false'. Refute it at one input. -/
def controlRankWrong : ChangeSpec := { name := "controlRank", fn := fun _ => fun
  | [d1, d2, d3] => { results := [.lit (.bool false)], args := [d1, d2, d3] }
  | _ => none }
def ControlRankWrongFalsely : Prop := controlRankRow.holds Try.pinned (OpenSpec.ofChange controlRankWrong)

/- THE SECOND FORM. 'bulk': how many values and letters a reading holds, each counted each time it is reached (what is shared counts as often as it is met; a slice's spare places count too). A statement '..UptoSaid' is the law's where the arguments, and the package variables that the reading takes, are together of bulk at most 1048576: NARROWER than '..Said'. Prove '..Said' where nothing that the law and all that it calls make is longer than what came in: it says more and counts as full. Else prove '..UptoSaid'. A law counts once. -/
mutual
def uptoBulk {H : Type} : DataW H → Nat
  | .lit (.string bytes) => bytes.length + 1
  | .lit _ => 1
  | .nil => 1
  | .ptr d => uptoBulk d + 1
  | .slice elems spare => uptoBulkAll elems + uptoBulkAll spare + 1
  | .agg parts => uptoBulkAll parts + 1
  | .iface _ d => uptoBulk d + 1
  | .map entries => uptoBulkEntries entries + 1
  | .held _ => 1
def uptoBulkAll {H : Type} : List (DataW H) → Nat
  | [] => 0
  | d :: r => uptoBulk d + uptoBulkAll r
def uptoBulkEntries {H : Type} : List (Lit × DataW H) → Nat
  | [] => 0
  | x :: r => uptoBulkEntry x + uptoBulkEntries r
def uptoBulkEntry {H : Type} : Lit × DataW H → Nat
  | (.string bytes, d) => bytes.length + uptoBulk d + 1
  | (_, d) => uptoBulk d + 1
 end
def uptoSmall : (H : Type) → List (DataW H) → Bool := fun _ ds => decide (uptoBulkAll ds ≤ 1048576)
def OpenSpec.upto (s : _root_.Go.ChangeSpec) : _root_.Go.OpenSpec := { _root_.Go.OpenSpec.ofChange s with cond := some uptoSmall }

/-- 'tallystonelaw20.HoldingValid', WHERE WHAT IT READS IS OF BULK AT MOST 1048576: true; the input reads as it did. -/
def holdingValidUptoRow : OpenClaim := { program := "ytmlpdpacefnngaa", sum := "04b2f42bfb74602d1a64eb99ccfaf391290475e1461097da75386e4054a89fbe", func := "tallystone/tallystonelaw20.HoldingValid", spec := "holdingValid", unfollowed := true, recurses := true, plainKeys := false, apart := false, narrowed := true }
def HoldingValidUptoSaid : Prop := holdingValidUptoRow.holds Try.pinned (OpenSpec.upto holdingValidSpec)

/-- 'tallystonelaw20.HoldingAt', WHERE WHAT IT READS IS OF BULK AT MOST 1048576: true; the input reads as it did. -/
def holdingAtUptoRow : OpenClaim := { program := "ytmlpdpacefnngaa", sum := "04b2f42bfb74602d1a64eb99ccfaf391290475e1461097da75386e4054a89fbe", func := "tallystone/tallystonelaw20.HoldingAt", spec := "holdingAt", unfollowed := true, recurses := true, plainKeys := false, apart := false, narrowed := true }
def HoldingAtUptoSaid : Prop := holdingAtUptoRow.holds Try.pinned (OpenSpec.upto holdingAtSpec)

/-- 'tallystonelaw20.HoldingSet', WHERE WHAT IT READS IS OF BULK AT MOST 1048576: true; the input reads as it did. -/
def holdingSetUptoRow : OpenClaim := { program := "ytmlpdpacefnngaa", sum := "04b2f42bfb74602d1a64eb99ccfaf391290475e1461097da75386e4054a89fbe", func := "tallystone/tallystonelaw20.HoldingSet", spec := "holdingSet", unfollowed := true, recurses := true, plainKeys := false, apart := false, narrowed := true }
def HoldingSetUptoSaid : Prop := holdingSetUptoRow.holds Try.pinned (OpenSpec.upto holdingSetSpec)

/-- 'tallystonelaw20.HoldingTime', WHERE WHAT IT READS IS OF BULK AT MOST 1048576: true; the input reads as it did. -/
def holdingTimeUptoRow : OpenClaim := { program := "ytmlpdpacefnngaa", sum := "04b2f42bfb74602d1a64eb99ccfaf391290475e1461097da75386e4054a89fbe", func := "tallystone/tallystonelaw20.HoldingTime", spec := "holdingTime", unfollowed := true, recurses := true, plainKeys := false, apart := false, narrowed := true }
def HoldingTimeUptoSaid : Prop := holdingTimeUptoRow.holds Try.pinned (OpenSpec.upto holdingTimeSpec)

/-- 'tallystonelaw20.HoldingKeeps', WHERE WHAT IT READS IS OF BULK AT MOST 1048576: true; the input reads as it did. -/
def holdingKeepsUptoRow : OpenClaim := { program := "ytmlpdpacefnngaa", sum := "04b2f42bfb74602d1a64eb99ccfaf391290475e1461097da75386e4054a89fbe", func := "tallystone/tallystonelaw20.HoldingKeeps", spec := "holdingKeeps", unfollowed := true, recurses := true, plainKeys := false, apart := false, narrowed := true }
def HoldingKeepsUptoSaid : Prop := holdingKeepsUptoRow.holds Try.pinned (OpenSpec.upto holdingKeepsSpec)

/-- 'tallystonelaw20.HoldingMatrix', WHERE WHAT IT READS IS OF BULK AT MOST 1048576: true; the input reads as it did. -/
def holdingMatrixUptoRow : OpenClaim := { program := "ytmlpdpacefnngaa", sum := "04b2f42bfb74602d1a64eb99ccfaf391290475e1461097da75386e4054a89fbe", func := "tallystone/tallystonelaw20.HoldingMatrix", spec := "holdingMatrix", unfollowed := true, recurses := true, plainKeys := false, apart := false, narrowed := true }
def HoldingMatrixUptoSaid : Prop := holdingMatrixUptoRow.holds Try.pinned (OpenSpec.upto holdingMatrixSpec)

/-- 'tallystonelaw20.HoldingOrder', WHERE WHAT IT READS IS OF BULK AT MOST 1048576: true; the input reads as it did. -/
def holdingOrderUptoRow : OpenClaim := { program := "ytmlpdpacefnngaa", sum := "04b2f42bfb74602d1a64eb99ccfaf391290475e1461097da75386e4054a89fbe", func := "tallystone/tallystonelaw20.HoldingOrder", spec := "holdingOrder", unfollowed := true, recurses := true, plainKeys := false, apart := false, narrowed := true }
def HoldingOrderUptoSaid : Prop := holdingOrderUptoRow.holds Try.pinned (OpenSpec.upto holdingOrderSpec)

/-- 'tallystonelaw20.HoldingColumns', WHERE WHAT IT READS IS OF BULK AT MOST 1048576: true; the input reads as it did. -/
def holdingColumnsUptoRow : OpenClaim := { program := "ytmlpdpacefnngaa", sum := "04b2f42bfb74602d1a64eb99ccfaf391290475e1461097da75386e4054a89fbe", func := "tallystone/tallystonelaw20.HoldingColumns", spec := "holdingColumns", unfollowed := true, recurses := true, plainKeys := false, apart := false, narrowed := true }
def HoldingColumnsUptoSaid : Prop := holdingColumnsUptoRow.holds Try.pinned (OpenSpec.upto holdingColumnsSpec)

/-- 'tallystonelaw24.ControlControlled', WHERE WHAT IT READS IS OF BULK AT MOST 1048576: true; the input reads as it did. -/
def controlControlledUptoRow : OpenClaim := { program := "ytmlpdpacefnngaa", sum := "04b2f42bfb74602d1a64eb99ccfaf391290475e1461097da75386e4054a89fbe", func := "tallystone/tallystonelaw24.ControlControlled", spec := "controlControlled", unfollowed := true, recurses := true, plainKeys := false, apart := false, narrowed := true }
def ControlControlledUptoSaid : Prop := controlControlledUptoRow.holds Try.pinned (OpenSpec.upto controlControlledSpec)

/-- 'tallystonelaw24.ControlLeast', WHERE WHAT IT READS IS OF BULK AT MOST 1048576: true; the input reads as it did. -/
def controlLeastUptoRow : OpenClaim := { program := "ytmlpdpacefnngaa", sum := "04b2f42bfb74602d1a64eb99ccfaf391290475e1461097da75386e4054a89fbe", func := "tallystone/tallystonelaw24.ControlLeast", spec := "controlLeast", unfollowed := true, recurses := true, plainKeys := false, apart := false, narrowed := true }
def ControlLeastUptoSaid : Prop := controlLeastUptoRow.holds Try.pinned (OpenSpec.upto controlLeastSpec)

/-- 'tallystonelaw24.ControlGrows', WHERE WHAT IT READS IS OF BULK AT MOST 1048576: true; the input reads as it did. -/
def controlGrowsUptoRow : OpenClaim := { program := "ytmlpdpacefnngaa", sum := "04b2f42bfb74602d1a64eb99ccfaf391290475e1461097da75386e4054a89fbe", func := "tallystone/tallystonelaw24.ControlGrows", spec := "controlGrows", unfollowed := true, recurses := true, plainKeys := false, apart := false, narrowed := true }
def ControlGrowsUptoSaid : Prop := controlGrowsUptoRow.holds Try.pinned (OpenSpec.upto controlGrowsSpec)

/-- 'tallystonelaw24.ControlRank', WHERE WHAT IT READS IS OF BULK AT MOST 1048576: true; the input reads as it did. -/
def controlRankUptoRow : OpenClaim := { program := "ytmlpdpacefnngaa", sum := "04b2f42bfb74602d1a64eb99ccfaf391290475e1461097da75386e4054a89fbe", func := "tallystone/tallystonelaw24.ControlRank", spec := "controlRank", unfollowed := true, recurses := true, plainKeys := false, apart := false, narrowed := true }
def ControlRankUptoSaid : Prop := controlRankUptoRow.holds Try.pinned (OpenSpec.upto controlRankSpec)

end Rows
end Go.Proofs.Ytmlpdpacefnngaa
