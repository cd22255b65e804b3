/-
  No cell of these rows narrows 'for every input' (looked for: loops, veiled, ifaces, maps, wideKeys, modest, calm, conditions, laid).
  DERIVED. THE GIVEN ROWS OF THIS SEAT. 6 by the template 'for every input the law returns true; each argument reads behind the call as it read before'; 0 by the template 'total and deterministic' (their statements: YtoaidbhiciaeaaaGreatTotals.lean).
  GIVEN WITH THE SEED: the statements are not yours to turn. If you find one false, say at which input.
  Laid BY PROGRAM, IN A SANDBOX (cutbox-rows.mjs): the forced cells as the released guide's own fill.sh prints them over the translation fc2ef7c2a3f35dcf… (all of the seat's roots in one cut). By AI agents, Wed Nov 11 2026. No macro, syntax, notation, axiom, sorry.
-/
import Derived.Test.YtoaidbhiciaeaaaGreatChecked
import GoSem.Claim
import GoSem.ClaimJoined
import GoSem.ClaimMapViews
import Derived.JoinedTies
import Derived.KernelRfl
namespace Go.Proofs.YtoaidbhiciaeaaaGreat
/- THE CELL 'sum', in the pinned program and in every row, IS THE sha256 OF THE DUMP (.gsa) THAT YtoaidbhiciaeaaaGreatProg.lean LOADS. Nothing in Lean hashes anything: it is a label: what it is worth is what the hold of that sum in a sandbox is worth. -/
noncomputable def Tryz.pinned : Pinned := { name := "ytoaidbhiciaeaaagreat", sum := "fc2ef7c2a3f35dcf01d89342525c4782ff1d33fb1a6389f1cae5759a12d9f92a", checked := Tryz.checked }
namespace Rows
def none {H : Type} : Left H := { results := [], args := [] }

/-- 'tallystonelaw30.IntercoPostings': WHATEVER THE INPUT: true; the input reads as it did. -/
def intercoPostingsSpec : ChangeSpec := { name := "intercoPostings", fn := fun _ => fun
  | [d1, d2, d3] => { results := [.lit (.bool true)], args := [d1, d2, d3] }
  | _ => none }
def intercoPostingsRow : OpenClaim := { program := "ytoaidbhiciaeaaagreat", sum := "fc2ef7c2a3f35dcf01d89342525c4782ff1d33fb1a6389f1cae5759a12d9f92a", func := "tallystone/tallystonelaw30.IntercoPostings", spec := "intercoPostings", unfollowed := true, recurses := true, plainKeys := false, apart := false }
def IntercoPostingsSaid : Prop := intercoPostingsRow.holds Tryz.pinned (OpenSpec.ofChange intercoPostingsSpec)

/-- ITS FALSE NEIGHBOUR: 'it returns false'. Refute it at one input. -/
def intercoPostingsWrong : ChangeSpec := { name := "intercoPostings", fn := fun _ => fun
  | [d1, d2, d3] => { results := [.lit (.bool false)], args := [d1, d2, d3] }
  | _ => none }
def IntercoPostingsWrongFalsely : Prop := intercoPostingsRow.holds Tryz.pinned (OpenSpec.ofChange intercoPostingsWrong)

/-- 'tallystonelaw30.IntercoConfirmed': WHATEVER THE INPUT: true; the input reads as it did. -/
def intercoConfirmedSpec : ChangeSpec := { name := "intercoConfirmed", fn := fun _ => fun
  | [d1, d2, d3] => { results := [.lit (.bool true)], args := [d1, d2, d3] }
  | _ => none }
def intercoConfirmedRow : OpenClaim := { program := "ytoaidbhiciaeaaagreat", sum := "fc2ef7c2a3f35dcf01d89342525c4782ff1d33fb1a6389f1cae5759a12d9f92a", func := "tallystone/tallystonelaw30.IntercoConfirmed", spec := "intercoConfirmed", unfollowed := true, recurses := true, plainKeys := false, apart := false }
def IntercoConfirmedSaid : Prop := intercoConfirmedRow.holds Tryz.pinned (OpenSpec.ofChange intercoConfirmedSpec)

/-- ITS FALSE NEIGHBOUR: 'it returns false'. Refute it at one input. -/
def intercoConfirmedWrong : ChangeSpec := { name := "intercoConfirmed", fn := fun _ => fun
  | [d1, d2, d3] => { results := [.lit (.bool false)], args := [d1, d2, d3] }
  | _ => none }
def IntercoConfirmedWrongFalsely : Prop := intercoConfirmedRow.holds Tryz.pinned (OpenSpec.ofChange intercoConfirmedWrong)

/-- 'tallystonelaw30.IntercoOrder': WHATEVER THE INPUT: true; the input reads as it did. -/
def intercoOrderSpec : ChangeSpec := { name := "intercoOrder", fn := fun _ => fun
  | [d1, d2, d3] => { results := [.lit (.bool true)], args := [d1, d2, d3] }
  | _ => none }
def intercoOrderRow : OpenClaim := { program := "ytoaidbhiciaeaaagreat", sum := "fc2ef7c2a3f35dcf01d89342525c4782ff1d33fb1a6389f1cae5759a12d9f92a", func := "tallystone/tallystonelaw30.IntercoOrder", spec := "intercoOrder", unfollowed := true, recurses := true, plainKeys := false, apart := false }
def IntercoOrderSaid : Prop := intercoOrderRow.holds Tryz.pinned (OpenSpec.ofChange intercoOrderSpec)

/-- ITS FALSE NEIGHBOUR: 'it returns false'. Refute it at one input. -/
def intercoOrderWrong : ChangeSpec := { name := "intercoOrder", fn := fun _ => fun
  | [d1, d2, d3] => { results := [.lit (.bool false)], args := [d1, d2, d3] }
  | _ => none }
def IntercoOrderWrongFalsely : Prop := intercoOrderRow.holds Tryz.pinned (OpenSpec.ofChange intercoOrderWrong)

/-- 'tallystonelaw30.IntercoExact': WHATEVER THE INPUT: true; the input reads as it did. -/
def intercoExactSpec : ChangeSpec := { name := "intercoExact", fn := fun _ => fun
  | [d1, d2, d3] => { results := [.lit (.bool true)], args := [d1, d2, d3] }
  | _ => none }
def intercoExactRow : OpenClaim := { program := "ytoaidbhiciaeaaagreat", sum := "fc2ef7c2a3f35dcf01d89342525c4782ff1d33fb1a6389f1cae5759a12d9f92a", func := "tallystone/tallystonelaw30.IntercoExact", spec := "intercoExact", unfollowed := true, recurses := true, plainKeys := false, apart := false }
def IntercoExactSaid : Prop := intercoExactRow.holds Tryz.pinned (OpenSpec.ofChange intercoExactSpec)

/-- ITS FALSE NEIGHBOUR: 'it returns false'. Refute it at one input. -/
def intercoExactWrong : ChangeSpec := { name := "intercoExact", fn := fun _ => fun
  | [d1, d2, d3] => { results := [.lit (.bool false)], args := [d1, d2, d3] }
  | _ => none }
def IntercoExactWrongFalsely : Prop := intercoExactRow.holds Tryz.pinned (OpenSpec.ofChange intercoExactWrong)

/-- 'tallystonelaw30.IntercoNothingLeft': WHATEVER THE INPUT: true; the input reads as it did. -/
def intercoNothingLeftSpec : ChangeSpec := { name := "intercoNothingLeft", fn := fun _ => fun
  | [d1, d2, d3] => { results := [.lit (.bool true)], args := [d1, d2, d3] }
  | _ => none }
def intercoNothingLeftRow : OpenClaim := { program := "ytoaidbhiciaeaaagreat", sum := "fc2ef7c2a3f35dcf01d89342525c4782ff1d33fb1a6389f1cae5759a12d9f92a", func := "tallystone/tallystonelaw30.IntercoNothingLeft", spec := "intercoNothingLeft", unfollowed := true, recurses := true, plainKeys := false, apart := false }
def IntercoNothingLeftSaid : Prop := intercoNothingLeftRow.holds Tryz.pinned (OpenSpec.ofChange intercoNothingLeftSpec)

/-- ITS FALSE NEIGHBOUR: 'it returns false'. Refute it at one input. -/
def intercoNothingLeftWrong : ChangeSpec := { name := "intercoNothingLeft", fn := fun _ => fun
  | [d1, d2, d3] => { results := [.lit (.bool false)], args := [d1, d2, d3] }
  | _ => none }
def IntercoNothingLeftWrongFalsely : Prop := intercoNothingLeftRow.holds Tryz.pinned (OpenSpec.ofChange intercoNothingLeftWrong)

/-- 'tallystonelaw30.IntercoEliminated': WHATEVER THE INPUT: true; the input reads as it did. -/
def intercoEliminatedSpec : ChangeSpec := { name := "intercoEliminated", fn := fun _ => fun
  | [d1, d2, d3] => { results := [.lit (.bool true)], args := [d1, d2, d3] }
  | _ => none }
def intercoEliminatedRow : OpenClaim := { program := "ytoaidbhiciaeaaagreat", sum := "fc2ef7c2a3f35dcf01d89342525c4782ff1d33fb1a6389f1cae5759a12d9f92a", func := "tallystone/tallystonelaw30.IntercoEliminated", spec := "intercoEliminated", unfollowed := true, recurses := true, plainKeys := false, apart := false }
def IntercoEliminatedSaid : Prop := intercoEliminatedRow.holds Tryz.pinned (OpenSpec.ofChange intercoEliminatedSpec)

/-- ITS FALSE NEIGHBOUR: 'it returns false'. Refute it at one input. -/
def intercoEliminatedWrong : ChangeSpec := { name := "intercoEliminated", fn := fun _ => fun
  | [d1, d2, d3] => { results := [.lit (.bool false)], args := [d1, d2, d3] }
  | _ => none }
def IntercoEliminatedWrongFalsely : Prop := intercoEliminatedRow.holds Tryz.pinned (OpenSpec.ofChange intercoEliminatedWrong)

/- THE SECOND FORM. 'bulk': how many values and letters a reading holds, each counted each time it is reached (what is shared counts as often as it is met; a slice's spare places count too). A statement '..UptoSaid' is the law's where the arguments, and the package variables that the reading takes, are together of bulk at most 1048576: NARROWER than '..Said'. Prove '..Said' where nothing that the law and all that it calls make is longer than what came in: it says more and counts as full. Else prove '..UptoSaid'. A law counts once. -/
mutual
def uptoBulk {H : Type} : DataW H → Nat
  | .lit (.string bytes) => bytes.length + 1
  | .lit _ => 1
  | .nil => 1
  | .ptr d => uptoBulk d + 1
  | .slice elems spare => uptoBulkAll elems + uptoBulkAll spare + 1
  | .agg parts => uptoBulkAll parts + 1
  | .iface _ d => uptoBulk d + 1
  | .map entries => uptoBulkEntries entries + 1
  | .held _ => 1
def uptoBulkAll {H : Type} : List (DataW H) → Nat
  | [] => 0
  | d :: r => uptoBulk d + uptoBulkAll r
def uptoBulkEntries {H : Type} : List (Lit × DataW H) → Nat
  | [] => 0
  | x :: r => uptoBulkEntry x + uptoBulkEntries r
def uptoBulkEntry {H : Type} : Lit × DataW H → Nat
  | (.string bytes, d) => bytes.length + uptoBulk d + 1
  | (_, d) => uptoBulk d + 1
 end
def uptoSmall : (H : Type) → List (DataW H) → Bool := fun _ ds => decide (uptoBulkAll ds ≤ 1048576)
def OpenSpec.upto (s : _root_.Go.ChangeSpec) : _root_.Go.OpenSpec := { _root_.Go.OpenSpec.ofChange s with cond := some uptoSmall }

/-- 'tallystonelaw30.IntercoPostings', WHERE WHAT IT READS IS OF BULK AT MOST 1048576: true; the input reads as it did. -/
def intercoPostingsUptoRow : OpenClaim := { program := "ytoaidbhiciaeaaagreat", sum := "fc2ef7c2a3f35dcf01d89342525c4782ff1d33fb1a6389f1cae5759a12d9f92a", func := "tallystone/tallystonelaw30.IntercoPostings", spec := "intercoPostings", unfollowed := true, recurses := true, plainKeys := false, apart := false, narrowed := true }
def IntercoPostingsUptoSaid : Prop := intercoPostingsUptoRow.holds Tryz.pinned (OpenSpec.upto intercoPostingsSpec)

/-- 'tallystonelaw30.IntercoConfirmed', WHERE WHAT IT READS IS OF BULK AT MOST 1048576: true; the input reads as it did. -/
def intercoConfirmedUptoRow : OpenClaim := { program := "ytoaidbhiciaeaaagreat", sum := "fc2ef7c2a3f35dcf01d89342525c4782ff1d33fb1a6389f1cae5759a12d9f92a", func := "tallystone/tallystonelaw30.IntercoConfirmed", spec := "intercoConfirmed", unfollowed := true, recurses := true, plainKeys := false, apart := false, narrowed := true }
def IntercoConfirmedUptoSaid : Prop := intercoConfirmedUptoRow.holds Tryz.pinned (OpenSpec.upto intercoConfirmedSpec)

/-- 'tallystonelaw30.IntercoOrder', WHERE WHAT IT READS IS OF BULK AT MOST 1048576: true; the input reads as it did. -/
def intercoOrderUptoRow : OpenClaim := { program := "ytoaidbhiciaeaaagreat", sum := "fc2ef7c2a3f35dcf01d89342525c4782ff1d33fb1a6389f1cae5759a12d9f92a", func := "tallystone/tallystonelaw30.IntercoOrder", spec := "intercoOrder", unfollowed := true, recurses := true, plainKeys := false, apart := false, narrowed := true }
def IntercoOrderUptoSaid : Prop := intercoOrderUptoRow.holds Tryz.pinned (OpenSpec.upto intercoOrderSpec)

/-- 'tallystonelaw30.IntercoExact', WHERE WHAT IT READS IS OF BULK AT MOST 1048576: true; the input reads as it did. -/
def intercoExactUptoRow : OpenClaim := { program := "ytoaidbhiciaeaaagreat", sum := "fc2ef7c2a3f35dcf01d89342525c4782ff1d33fb1a6389f1cae5759a12d9f92a", func := "tallystone/tallystonelaw30.IntercoExact", spec := "intercoExact", unfollowed := true, recurses := true, plainKeys := false, apart := false, narrowed := true }
def IntercoExactUptoSaid : Prop := intercoExactUptoRow.holds Tryz.pinned (OpenSpec.upto intercoExactSpec)

/-- 'tallystonelaw30.IntercoNothingLeft', WHERE WHAT IT READS IS OF BULK AT MOST 1048576: true; the input reads as it did. -/
def intercoNothingLeftUptoRow : OpenClaim := { program := "ytoaidbhiciaeaaagreat", sum := "fc2ef7c2a3f35dcf01d89342525c4782ff1d33fb1a6389f1cae5759a12d9f92a", func := "tallystone/tallystonelaw30.IntercoNothingLeft", spec := "intercoNothingLeft", unfollowed := true, recurses := true, plainKeys := false, apart := false, narrowed := true }
def IntercoNothingLeftUptoSaid : Prop := intercoNothingLeftUptoRow.holds Tryz.pinned (OpenSpec.upto intercoNothingLeftSpec)

/-- 'tallystonelaw30.IntercoEliminated', WHERE WHAT IT READS IS OF BULK AT MOST 1048576: true; the input reads as it did. -/
def intercoEliminatedUptoRow : OpenClaim := { program := "ytoaidbhiciaeaaagreat", sum := "fc2ef7c2a3f35dcf01d89342525c4782ff1d33fb1a6389f1cae5759a12d9f92a", func := "tallystone/tallystonelaw30.IntercoEliminated", spec := "intercoEliminated", unfollowed := true, recurses := true, plainKeys := false, apart := false, narrowed := true }
def IntercoEliminatedUptoSaid : Prop := intercoEliminatedUptoRow.holds Tryz.pinned (OpenSpec.upto intercoEliminatedSpec)

end Rows
end Go.Proofs.YtoaidbhiciaeaaaGreat
