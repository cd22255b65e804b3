/-
  No cell of these rows narrows 'for every input' (looked for: loops, veiled, ifaces, maps, wideKeys, modest, calm, conditions, laid).
  DERIVED. THE GIVEN ROWS OF THIS SEAT. 7 by the template 'for every input the law returns true; each argument reads behind the call as it read before'; 0 by the template 'total and deterministic' (their statements: YtfddhmhagijodaaTotals.lean).
  GIVEN WITH THE SEED: the statements are not yours to turn. If you find one false, say at which input.
  Laid BY PROGRAM, IN A SANDBOX (cutbox-rows.mjs): the forced cells as the released guide's own fill.sh prints them over the translation 9c4c0bfbcb3c722c… (all of the seat's roots in one cut). By AI agents, Wed Nov 11 2026. No macro, syntax, notation, axiom, sorry.
-/
import Derived.Test.YtfddhmhagijodaaChecked
import GoSem.Claim
import GoSem.ClaimJoined
import GoSem.ClaimMapViews
import Derived.JoinedTies
import Derived.KernelRfl
namespace Go.Proofs.Ytfddhmhagijodaa
/- THE CELL 'sum', in the pinned program and in every row, IS THE sha256 OF THE DUMP (.gsa) THAT YtfddhmhagijodaaProg.lean LOADS. Nothing in Lean hashes anything: it is a label: what it is worth is what the hold of that sum in a sandbox is worth. -/
noncomputable def Try.pinned : Pinned := { name := "ytfddhmhagijodaa", sum := "9c4c0bfbcb3c722c386431cff6a0236d4e3c8e97ca98dd2c6c49412c46c1c97d", checked := Try.checked }
namespace Rows
def none {H : Type} : Left H := { results := [], args := [] }

/-- 'tallystonelaw27.PartnerNet': WHATEVER THE INPUT: true; the input reads as it did. -/
def partnerNetSpec : ChangeSpec := { name := "partnerNet", fn := fun _ => fun
  | [d1, d2] => { results := [.lit (.bool true)], args := [d1, d2] }
  | _ => none }
def partnerNetRow : OpenClaim := { program := "ytfddhmhagijodaa", sum := "9c4c0bfbcb3c722c386431cff6a0236d4e3c8e97ca98dd2c6c49412c46c1c97d", func := "tallystone/tallystonelaw27.PartnerNet", spec := "partnerNet", unfollowed := true, recurses := true, plainKeys := false, apart := false }
def PartnerNetSaid : Prop := partnerNetRow.holds Try.pinned (OpenSpec.ofChange partnerNetSpec)

/-- ITS FALSE NEIGHBOUR: 'it returns false'. Refute it at one input. -/
def partnerNetWrong : ChangeSpec := { name := "partnerNet", fn := fun _ => fun
  | [d1, d2] => { results := [.lit (.bool false)], args := [d1, d2] }
  | _ => none }
def PartnerNetWrongFalsely : Prop := partnerNetRow.holds Try.pinned (OpenSpec.ofChange partnerNetWrong)

/-- 'tallystonelaw27.PartnerDates': WHATEVER THE INPUT: true; the input reads as it did. -/
def partnerDatesSpec : ChangeSpec := { name := "partnerDates", fn := fun _ => fun
  | [d1, d2, d3] => { results := [.lit (.bool true)], args := [d1, d2, d3] }
  | _ => none }
def partnerDatesRow : OpenClaim := { program := "ytfddhmhagijodaa", sum := "9c4c0bfbcb3c722c386431cff6a0236d4e3c8e97ca98dd2c6c49412c46c1c97d", func := "tallystone/tallystonelaw27.PartnerDates", spec := "partnerDates", unfollowed := true, recurses := true, plainKeys := false, apart := false }
def PartnerDatesSaid : Prop := partnerDatesRow.holds Try.pinned (OpenSpec.ofChange partnerDatesSpec)

/-- ITS FALSE NEIGHBOUR: 'it returns false'. Refute it at one input. -/
def partnerDatesWrong : ChangeSpec := { name := "partnerDates", fn := fun _ => fun
  | [d1, d2, d3] => { results := [.lit (.bool false)], args := [d1, d2, d3] }
  | _ => none }
def PartnerDatesWrongFalsely : Prop := partnerDatesRow.holds Try.pinned (OpenSpec.ofChange partnerDatesWrong)

/-- 'tallystonelaw27.PartnerReversed': WHATEVER THE INPUT: true; the input reads as it did. -/
def partnerReversedSpec : ChangeSpec := { name := "partnerReversed", fn := fun _ => fun
  | [d1, d2, d3] => { results := [.lit (.bool true)], args := [d1, d2, d3] }
  | _ => none }
def partnerReversedRow : OpenClaim := { program := "ytfddhmhagijodaa", sum := "9c4c0bfbcb3c722c386431cff6a0236d4e3c8e97ca98dd2c6c49412c46c1c97d", func := "tallystone/tallystonelaw27.PartnerReversed", spec := "partnerReversed", unfollowed := true, recurses := true, plainKeys := false, apart := false }
def PartnerReversedSaid : Prop := partnerReversedRow.holds Try.pinned (OpenSpec.ofChange partnerReversedSpec)

/-- ITS FALSE NEIGHBOUR: 'it returns false'. Refute it at one input. -/
def partnerReversedWrong : ChangeSpec := { name := "partnerReversed", fn := fun _ => fun
  | [d1, d2, d3] => { results := [.lit (.bool false)], args := [d1, d2, d3] }
  | _ => none }
def PartnerReversedWrongFalsely : Prop := partnerReversedRow.holds Try.pinned (OpenSpec.ofChange partnerReversedWrong)

/-- 'tallystonelaw27.PartnerLines': WHATEVER THE INPUT: true; the input reads as it did. -/
def partnerLinesSpec : ChangeSpec := { name := "partnerLines", fn := fun _ => fun
  | [d1, d2] => { results := [.lit (.bool true)], args := [d1, d2] }
  | _ => none }
def partnerLinesRow : OpenClaim := { program := "ytfddhmhagijodaa", sum := "9c4c0bfbcb3c722c386431cff6a0236d4e3c8e97ca98dd2c6c49412c46c1c97d", func := "tallystone/tallystonelaw27.PartnerLines", spec := "partnerLines", unfollowed := true, recurses := true, plainKeys := false, apart := false }
def PartnerLinesSaid : Prop := partnerLinesRow.holds Try.pinned (OpenSpec.ofChange partnerLinesSpec)

/-- ITS FALSE NEIGHBOUR: 'it returns false'. Refute it at one input. -/
def partnerLinesWrong : ChangeSpec := { name := "partnerLines", fn := fun _ => fun
  | [d1, d2] => { results := [.lit (.bool false)], args := [d1, d2] }
  | _ => none }
def PartnerLinesWrongFalsely : Prop := partnerLinesRow.holds Try.pinned (OpenSpec.ofChange partnerLinesWrong)

/-- 'tallystonelaw27.PartnerFind': WHATEVER THE INPUT: true; the input reads as it did. -/
def partnerFindSpec : ChangeSpec := { name := "partnerFind", fn := fun _ => fun
  | [d1, d2] => { results := [.lit (.bool true)], args := [d1, d2] }
  | _ => none }
def partnerFindRow : OpenClaim := { program := "ytfddhmhagijodaa", sum := "9c4c0bfbcb3c722c386431cff6a0236d4e3c8e97ca98dd2c6c49412c46c1c97d", func := "tallystone/tallystonelaw27.PartnerFind", spec := "partnerFind", unfollowed := true, recurses := true, plainKeys := false, apart := false }
def PartnerFindSaid : Prop := partnerFindRow.holds Try.pinned (OpenSpec.ofChange partnerFindSpec)

/-- ITS FALSE NEIGHBOUR: 'it returns false'. Refute it at one input. -/
def partnerFindWrong : ChangeSpec := { name := "partnerFind", fn := fun _ => fun
  | [d1, d2] => { results := [.lit (.bool false)], args := [d1, d2] }
  | _ => none }
def PartnerFindWrongFalsely : Prop := partnerFindRow.holds Try.pinned (OpenSpec.ofChange partnerFindWrong)

/-- 'tallystonelaw27.PartnerPairs': WHATEVER THE INPUT: true; the input reads as it did. -/
def partnerPairsSpec : ChangeSpec := { name := "partnerPairs", fn := fun _ => fun
  | [d1, d2] => { results := [.lit (.bool true)], args := [d1, d2] }
  | _ => none }
def partnerPairsRow : OpenClaim := { program := "ytfddhmhagijodaa", sum := "9c4c0bfbcb3c722c386431cff6a0236d4e3c8e97ca98dd2c6c49412c46c1c97d", func := "tallystone/tallystonelaw27.PartnerPairs", spec := "partnerPairs", unfollowed := true, recurses := true, plainKeys := false, apart := false }
def PartnerPairsSaid : Prop := partnerPairsRow.holds Try.pinned (OpenSpec.ofChange partnerPairsSpec)

/-- ITS FALSE NEIGHBOUR: 'it returns false'. Refute it at one input. -/
def partnerPairsWrong : ChangeSpec := { name := "partnerPairs", fn := fun _ => fun
  | [d1, d2] => { results := [.lit (.bool false)], args := [d1, d2] }
  | _ => none }
def PartnerPairsWrongFalsely : Prop := partnerPairsRow.holds Try.pinned (OpenSpec.ofChange partnerPairsWrong)

/-- 'tallystonelaw27.PartnerParts': WHATEVER THE INPUT: true; the input reads as it did. -/
def partnerPartsSpec : ChangeSpec := { name := "partnerParts", fn := fun _ => fun
  | [d1, d2] => { results := [.lit (.bool true)], args := [d1, d2] }
  | _ => none }
def partnerPartsRow : OpenClaim := { program := "ytfddhmhagijodaa", sum := "9c4c0bfbcb3c722c386431cff6a0236d4e3c8e97ca98dd2c6c49412c46c1c97d", func := "tallystone/tallystonelaw27.PartnerParts", spec := "partnerParts", unfollowed := true, recurses := true, plainKeys := false, apart := false }
def PartnerPartsSaid : Prop := partnerPartsRow.holds Try.pinned (OpenSpec.ofChange partnerPartsSpec)

/-- ITS FALSE NEIGHBOUR: 'it returns false'. Refute it at one input. -/
def partnerPartsWrong : ChangeSpec := { name := "partnerParts", fn := fun _ => fun
  | [d1, d2] => { results := [.lit (.bool false)], args := [d1, d2] }
  | _ => none }
def PartnerPartsWrongFalsely : Prop := partnerPartsRow.holds Try.pinned (OpenSpec.ofChange partnerPartsWrong)

/- THE SECOND FORM. 'bulk': how many values and letters a reading holds, each counted each time it is reached (what is shared counts as often as it is met; a slice's spare places count too). A statement '..UptoSaid' is the law's where the arguments, and the package variables that the reading takes, are together of bulk at most 1048576: NARROWER than '..Said'. Prove '..Said' where nothing that the law and all that it calls make is longer than what came in: it says more and counts as full. Else prove '..UptoSaid'. A law counts once. -/
mutual
def uptoBulk {H : Type} : DataW H → Nat
  | .lit (.string bytes) => bytes.length + 1
  | .lit _ => 1
  | .nil => 1
  | .ptr d => uptoBulk d + 1
  | .slice elems spare => uptoBulkAll elems + uptoBulkAll spare + 1
  | .agg parts => uptoBulkAll parts + 1
  | .iface _ d => uptoBulk d + 1
  | .map entries => uptoBulkEntries entries + 1
  | .held _ => 1
def uptoBulkAll {H : Type} : List (DataW H) → Nat
  | [] => 0
  | d :: r => uptoBulk d + uptoBulkAll r
def uptoBulkEntries {H : Type} : List (Lit × DataW H) → Nat
  | [] => 0
  | x :: r => uptoBulkEntry x + uptoBulkEntries r
def uptoBulkEntry {H : Type} : Lit × DataW H → Nat
  | (.string bytes, d) => bytes.length + uptoBulk d + 1
  | (_, d) => uptoBulk d + 1
 end
def uptoSmall : (H : Type) → List (DataW H) → Bool := fun _ ds => decide (uptoBulkAll ds ≤ 1048576)
def OpenSpec.upto (s : _root_.Go.ChangeSpec) : _root_.Go.OpenSpec := { _root_.Go.OpenSpec.ofChange s with cond := some uptoSmall }

/-- 'tallystonelaw27.PartnerNet', WHERE WHAT IT READS IS OF BULK AT MOST 1048576: true; the input reads as it did. -/
def partnerNetUptoRow : OpenClaim := { program := "ytfddhmhagijodaa", sum := "9c4c0bfbcb3c722c386431cff6a0236d4e3c8e97ca98dd2c6c49412c46c1c97d", func := "tallystone/tallystonelaw27.PartnerNet", spec := "partnerNet", unfollowed := true, recurses := true, plainKeys := false, apart := false, narrowed := true }
def PartnerNetUptoSaid : Prop := partnerNetUptoRow.holds Try.pinned (OpenSpec.upto partnerNetSpec)

/-- 'tallystonelaw27.PartnerDates', WHERE WHAT IT READS IS OF BULK AT MOST 1048576: true; the input reads as it did. -/
def partnerDatesUptoRow : OpenClaim := { program := "ytfddhmhagijodaa", sum := "9c4c0bfbcb3c722c386431cff6a0236d4e3c8e97ca98dd2c6c49412c46c1c97d", func := "tallystone/tallystonelaw27.PartnerDates", spec := "partnerDates", unfollowed := true, recurses := true, plainKeys := false, apart := false, narrowed := true }
def PartnerDatesUptoSaid : Prop := partnerDatesUptoRow.holds Try.pinned (OpenSpec.upto partnerDatesSpec)

/-- 'tallystonelaw27.PartnerReversed', WHERE WHAT IT READS IS OF BULK AT MOST 1048576: true; the input reads as it did. -/
def partnerReversedUptoRow : OpenClaim := { program := "ytfddhmhagijodaa", sum := "9c4c0bfbcb3c722c386431cff6a0236d4e3c8e97ca98dd2c6c49412c46c1c97d", func := "tallystone/tallystonelaw27.PartnerReversed", spec := "partnerReversed", unfollowed := true, recurses := true, plainKeys := false, apart := false, narrowed := true }
def PartnerReversedUptoSaid : Prop := partnerReversedUptoRow.holds Try.pinned (OpenSpec.upto partnerReversedSpec)

/-- 'tallystonelaw27.PartnerLines', WHERE WHAT IT READS IS OF BULK AT MOST 1048576: true; the input reads as it did. -/
def partnerLinesUptoRow : OpenClaim := { program := "ytfddhmhagijodaa", sum := "9c4c0bfbcb3c722c386431cff6a0236d4e3c8e97ca98dd2c6c49412c46c1c97d", func := "tallystone/tallystonelaw27.PartnerLines", spec := "partnerLines", unfollowed := true, recurses := true, plainKeys := false, apart := false, narrowed := true }
def PartnerLinesUptoSaid : Prop := partnerLinesUptoRow.holds Try.pinned (OpenSpec.upto partnerLinesSpec)

/-- 'tallystonelaw27.PartnerFind', WHERE WHAT IT READS IS OF BULK AT MOST 1048576: true; the input reads as it did. -/
def partnerFindUptoRow : OpenClaim := { program := "ytfddhmhagijodaa", sum := "9c4c0bfbcb3c722c386431cff6a0236d4e3c8e97ca98dd2c6c49412c46c1c97d", func := "tallystone/tallystonelaw27.PartnerFind", spec := "partnerFind", unfollowed := true, recurses := true, plainKeys := false, apart := false, narrowed := true }
def PartnerFindUptoSaid : Prop := partnerFindUptoRow.holds Try.pinned (OpenSpec.upto partnerFindSpec)

/-- 'tallystonelaw27.PartnerPairs', WHERE WHAT IT READS IS OF BULK AT MOST 1048576: true; the input reads as it did. -/
def partnerPairsUptoRow : OpenClaim := { program := "ytfddhmhagijodaa", sum := "9c4c0bfbcb3c722c386431cff6a0236d4e3c8e97ca98dd2c6c49412c46c1c97d", func := "tallystone/tallystonelaw27.PartnerPairs", spec := "partnerPairs", unfollowed := true, recurses := true, plainKeys := false, apart := false, narrowed := true }
def PartnerPairsUptoSaid : Prop := partnerPairsUptoRow.holds Try.pinned (OpenSpec.upto partnerPairsSpec)

/-- 'tallystonelaw27.PartnerParts', WHERE WHAT IT READS IS OF BULK AT MOST 1048576: true; the input reads as it did. -/
def partnerPartsUptoRow : OpenClaim := { program := "ytfddhmhagijodaa", sum := "9c4c0bfbcb3c722c386431cff6a0236d4e3c8e97ca98dd2c6c49412c46c1c97d", func := "tallystone/tallystonelaw27.PartnerParts", spec := "partnerParts", unfollowed := true, recurses := true, plainKeys := false, apart := false, narrowed := true }
def PartnerPartsUptoSaid : Prop := partnerPartsUptoRow.holds Try.pinned (OpenSpec.upto partnerPartsSpec)

end Rows
end Go.Proofs.Ytfddhmhagijodaa
