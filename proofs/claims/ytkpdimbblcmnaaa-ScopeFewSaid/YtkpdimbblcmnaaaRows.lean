/-
  No cell of these rows narrows 'for every input' (looked for: loops, veiled, ifaces, maps, wideKeys, modest, calm, conditions, laid).
  DERIVED. THE GIVEN ROWS OF THIS SEAT. 10 by the template 'for every input the law returns true; each argument reads behind the call as it read before'; 0 by the template 'total and deterministic' (their statements: YtkpdimbblcmnaaaTotals.lean).
  GIVEN WITH THE SEED: the statements are not yours to turn. If you find one false, say at which input.
  Laid BY PROGRAM, IN A SANDBOX (cutbox-rows.mjs): the forced cells as the released guide's own fill.sh prints them over the translation fcbcae95d9c1cce8… (all of the seat's roots in one cut). By AI agents, Wed Nov 11 2026. No macro, syntax, notation, axiom, sorry.
-/
import Derived.Test.YtkpdimbblcmnaaaChecked
import GoSem.Claim
import GoSem.ClaimJoined
import GoSem.ClaimMapViews
import Derived.JoinedTies
import Derived.KernelRfl
namespace Go.Proofs.Ytkpdimbblcmnaaa
/- THE CELL 'sum', in the pinned program and in every row, IS THE sha256 OF THE DUMP (.gsa) THAT YtkpdimbblcmnaaaProg.lean LOADS. Nothing in Lean hashes anything: it is a label: what it is worth is what the hold of that sum in a sandbox is worth. -/
noncomputable def Try.pinned : Pinned := { name := "ytkpdimbblcmnaaa", sum := "fcbcae95d9c1cce8aabb13059ab995825aef70d6db9b55d7c0d9c09f29b2266c", checked := Try.checked }
namespace Rows
def none {H : Type} : Left H := { results := [], args := [] }

/-- 'tallystonelaw25.MethodAll': WHATEVER THE INPUT: true; the input reads as it did. -/
def methodAllSpec : ChangeSpec := { name := "methodAll", fn := fun _ => fun
  | [d1, d2, d3] => { results := [.lit (.bool true)], args := [d1, d2, d3] }
  | _ => none }
def methodAllRow : OpenClaim := { program := "ytkpdimbblcmnaaa", sum := "fcbcae95d9c1cce8aabb13059ab995825aef70d6db9b55d7c0d9c09f29b2266c", func := "tallystone/tallystonelaw25.MethodAll", spec := "methodAll", unfollowed := true, recurses := true, plainKeys := false, apart := false }
def MethodAllSaid : Prop := methodAllRow.holds Try.pinned (OpenSpec.ofChange methodAllSpec)

/-- ITS FALSE NEIGHBOUR: 'it returns false'. Refute it at one input. -/
def methodAllWrong : ChangeSpec := { name := "methodAll", fn := fun _ => fun
  | [d1, d2, d3] => { results := [.lit (.bool false)], args := [d1, d2, d3] }
  | _ => none }
def MethodAllWrongFalsely : Prop := methodAllRow.holds Try.pinned (OpenSpec.ofChange methodAllWrong)

/-- 'tallystonelaw25.MethodJoint': WHATEVER THE INPUT: true; the input reads as it did. -/
def methodJointSpec : ChangeSpec := { name := "methodJoint", fn := fun _ => fun
  | [d1, d2, d3] => { results := [.lit (.bool true)], args := [d1, d2, d3] }
  | _ => none }
def methodJointRow : OpenClaim := { program := "ytkpdimbblcmnaaa", sum := "fcbcae95d9c1cce8aabb13059ab995825aef70d6db9b55d7c0d9c09f29b2266c", func := "tallystone/tallystonelaw25.MethodJoint", spec := "methodJoint", unfollowed := true, recurses := true, plainKeys := false, apart := false }
def MethodJointSaid : Prop := methodJointRow.holds Try.pinned (OpenSpec.ofChange methodJointSpec)

/-- ITS FALSE NEIGHBOUR: 'it returns false'. Refute it at one input. -/
def methodJointWrong : ChangeSpec := { name := "methodJoint", fn := fun _ => fun
  | [d1, d2, d3] => { results := [.lit (.bool false)], args := [d1, d2, d3] }
  | _ => none }
def MethodJointWrongFalsely : Prop := methodJointRow.holds Try.pinned (OpenSpec.ofChange methodJointWrong)

/-- 'tallystonelaw25.MethodAt': WHATEVER THE INPUT: true; the input reads as it did. -/
def methodAtSpec : ChangeSpec := { name := "methodAt", fn := fun _ => fun
  | [d1, d2, d3] => { results := [.lit (.bool true)], args := [d1, d2, d3] }
  | _ => none }
def methodAtRow : OpenClaim := { program := "ytkpdimbblcmnaaa", sum := "fcbcae95d9c1cce8aabb13059ab995825aef70d6db9b55d7c0d9c09f29b2266c", func := "tallystone/tallystonelaw25.MethodAt", spec := "methodAt", unfollowed := true, recurses := true, plainKeys := false, apart := false }
def MethodAtSaid : Prop := methodAtRow.holds Try.pinned (OpenSpec.ofChange methodAtSpec)

/-- ITS FALSE NEIGHBOUR: 'it returns false'. Refute it at one input. -/
def methodAtWrong : ChangeSpec := { name := "methodAt", fn := fun _ => fun
  | [d1, d2, d3] => { results := [.lit (.bool false)], args := [d1, d2, d3] }
  | _ => none }
def MethodAtWrongFalsely : Prop := methodAtRow.holds Try.pinned (OpenSpec.ofChange methodAtWrong)

/-- 'tallystonelaw25.MethodAlone': WHATEVER THE INPUT: true; the input reads as it did. -/
def methodAloneSpec : ChangeSpec := { name := "methodAlone", fn := fun _ => fun
  | [d1, d2, d3] => { results := [.lit (.bool true)], args := [d1, d2, d3] }
  | _ => none }
def methodAloneRow : OpenClaim := { program := "ytkpdimbblcmnaaa", sum := "fcbcae95d9c1cce8aabb13059ab995825aef70d6db9b55d7c0d9c09f29b2266c", func := "tallystone/tallystonelaw25.MethodAlone", spec := "methodAlone", unfollowed := true, recurses := true, plainKeys := false, apart := false }
def MethodAloneSaid : Prop := methodAloneRow.holds Try.pinned (OpenSpec.ofChange methodAloneSpec)

/-- ITS FALSE NEIGHBOUR: 'it returns false'. Refute it at one input. -/
def methodAloneWrong : ChangeSpec := { name := "methodAlone", fn := fun _ => fun
  | [d1, d2, d3] => { results := [.lit (.bool false)], args := [d1, d2, d3] }
  | _ => none }
def MethodAloneWrongFalsely : Prop := methodAloneRow.holds Try.pinned (OpenSpec.ofChange methodAloneWrong)

/-- 'tallystonelaw26.ScopeIntervals': WHATEVER THE INPUT: true; the input reads as it did. -/
def scopeIntervalsSpec : ChangeSpec := { name := "scopeIntervals", fn := fun _ => fun
  | [d1, d2, d3] => { results := [.lit (.bool true)], args := [d1, d2, d3] }
  | _ => none }
def scopeIntervalsRow : OpenClaim := { program := "ytkpdimbblcmnaaa", sum := "fcbcae95d9c1cce8aabb13059ab995825aef70d6db9b55d7c0d9c09f29b2266c", func := "tallystone/tallystonelaw26.ScopeIntervals", spec := "scopeIntervals", unfollowed := true, recurses := true, plainKeys := false, apart := false }
def ScopeIntervalsSaid : Prop := scopeIntervalsRow.holds Try.pinned (OpenSpec.ofChange scopeIntervalsSpec)

/-- ITS FALSE NEIGHBOUR: 'it returns false'. Refute it at one input. -/
def scopeIntervalsWrong : ChangeSpec := { name := "scopeIntervals", fn := fun _ => fun
  | [d1, d2, d3] => { results := [.lit (.bool false)], args := [d1, d2, d3] }
  | _ => none }
def ScopeIntervalsWrongFalsely : Prop := scopeIntervalsRow.holds Try.pinned (OpenSpec.ofChange scopeIntervalsWrong)

/-- 'tallystonelaw26.ScopeParts': WHATEVER THE INPUT: true; the input reads as it did. -/
def scopePartsSpec : ChangeSpec := { name := "scopeParts", fn := fun _ => fun
  | [d1, d2, d3] => { results := [.lit (.bool true)], args := [d1, d2, d3] }
  | _ => none }
def scopePartsRow : OpenClaim := { program := "ytkpdimbblcmnaaa", sum := "fcbcae95d9c1cce8aabb13059ab995825aef70d6db9b55d7c0d9c09f29b2266c", func := "tallystone/tallystonelaw26.ScopeParts", spec := "scopeParts", unfollowed := true, recurses := true, plainKeys := false, apart := false }
def ScopePartsSaid : Prop := scopePartsRow.holds Try.pinned (OpenSpec.ofChange scopePartsSpec)

/-- ITS FALSE NEIGHBOUR: 'it returns false'. Refute it at one input. -/
def scopePartsWrong : ChangeSpec := { name := "scopeParts", fn := fun _ => fun
  | [d1, d2, d3] => { results := [.lit (.bool false)], args := [d1, d2, d3] }
  | _ => none }
def ScopePartsWrongFalsely : Prop := scopePartsRow.holds Try.pinned (OpenSpec.ofChange scopePartsWrong)

/-- 'tallystonelaw26.ScopeCovers': WHATEVER THE INPUT: true; the input reads as it did. -/
def scopeCoversSpec : ChangeSpec := { name := "scopeCovers", fn := fun _ => fun
  | [d1, d2, d3] => { results := [.lit (.bool true)], args := [d1, d2, d3] }
  | _ => none }
def scopeCoversRow : OpenClaim := { program := "ytkpdimbblcmnaaa", sum := "fcbcae95d9c1cce8aabb13059ab995825aef70d6db9b55d7c0d9c09f29b2266c", func := "tallystone/tallystonelaw26.ScopeCovers", spec := "scopeCovers", unfollowed := true, recurses := true, plainKeys := false, apart := false }
def ScopeCoversSaid : Prop := scopeCoversRow.holds Try.pinned (OpenSpec.ofChange scopeCoversSpec)

/-- ITS FALSE NEIGHBOUR: 'it returns false'. Refute it at one input. -/
def scopeCoversWrong : ChangeSpec := { name := "scopeCovers", fn := fun _ => fun
  | [d1, d2, d3] => { results := [.lit (.bool false)], args := [d1, d2, d3] }
  | _ => none }
def ScopeCoversWrongFalsely : Prop := scopeCoversRow.holds Try.pinned (OpenSpec.ofChange scopeCoversWrong)

/-- 'tallystonelaw26.ScopeFew': WHATEVER THE INPUT: true; the input reads as it did. -/
def scopeFewSpec : ChangeSpec := { name := "scopeFew", fn := fun _ => fun
  | [d1, d2, d3] => { results := [.lit (.bool true)], args := [d1, d2, d3] }
  | _ => none }
def scopeFewRow : OpenClaim := { program := "ytkpdimbblcmnaaa", sum := "fcbcae95d9c1cce8aabb13059ab995825aef70d6db9b55d7c0d9c09f29b2266c", func := "tallystone/tallystonelaw26.ScopeFew", spec := "scopeFew", unfollowed := true, recurses := true, plainKeys := false, apart := false }
def ScopeFewSaid : Prop := scopeFewRow.holds Try.pinned (OpenSpec.ofChange scopeFewSpec)

/-- ITS FALSE NEIGHBOUR: 'it returns false'. Refute it at one input. -/
def scopeFewWrong : ChangeSpec := { name := "scopeFew", fn := fun _ => fun
  | [d1, d2, d3] => { results := [.lit (.bool false)], args := [d1, d2, d3] }
  | _ => none }
def ScopeFewWrongFalsely : Prop := scopeFewRow.holds Try.pinned (OpenSpec.ofChange scopeFewWrong)

/-- 'tallystonelaw26.ScopeCurrent': WHATEVER THE INPUT: true; the input reads as it did. -/
def scopeCurrentSpec : ChangeSpec := { name := "scopeCurrent", fn := fun _ => fun
  | [d1, d2, d3] => { results := [.lit (.bool true)], args := [d1, d2, d3] }
  | _ => none }
def scopeCurrentRow : OpenClaim := { program := "ytkpdimbblcmnaaa", sum := "fcbcae95d9c1cce8aabb13059ab995825aef70d6db9b55d7c0d9c09f29b2266c", func := "tallystone/tallystonelaw26.ScopeCurrent", spec := "scopeCurrent", unfollowed := true, recurses := true, plainKeys := false, apart := false }
def ScopeCurrentSaid : Prop := scopeCurrentRow.holds Try.pinned (OpenSpec.ofChange scopeCurrentSpec)

/-- ITS FALSE NEIGHBOUR: 'it returns false'. Refute it at one input. -/
def scopeCurrentWrong : ChangeSpec := { name := "scopeCurrent", fn := fun _ => fun
  | [d1, d2, d3] => { results := [.lit (.bool false)], args := [d1, d2, d3] }
  | _ => none }
def ScopeCurrentWrongFalsely : Prop := scopeCurrentRow.holds Try.pinned (OpenSpec.ofChange scopeCurrentWrong)

/-- 'tallystonelaw26.ScopeMethods': WHATEVER THE INPUT: true; the input reads as it did. -/
def scopeMethodsSpec : ChangeSpec := { name := "scopeMethods", fn := fun _ => fun
  | [d1, d2, d3] => { results := [.lit (.bool true)], args := [d1, d2, d3] }
  | _ => none }
def scopeMethodsRow : OpenClaim := { program := "ytkpdimbblcmnaaa", sum := "fcbcae95d9c1cce8aabb13059ab995825aef70d6db9b55d7c0d9c09f29b2266c", func := "tallystone/tallystonelaw26.ScopeMethods", spec := "scopeMethods", unfollowed := true, recurses := true, plainKeys := false, apart := false }
def ScopeMethodsSaid : Prop := scopeMethodsRow.holds Try.pinned (OpenSpec.ofChange scopeMethodsSpec)

/-- ITS FALSE NEIGHBOUR: 'it returns false'. Refute it at one input. -/
def scopeMethodsWrong : ChangeSpec := { name := "scopeMethods", fn := fun _ => fun
  | [d1, d2, d3] => { results := [.lit (.bool false)], args := [d1, d2, d3] }
  | _ => none }
def ScopeMethodsWrongFalsely : Prop := scopeMethodsRow.holds Try.pinned (OpenSpec.ofChange scopeMethodsWrong)

/- THE SECOND FORM. 'bulk': how many values and letters a reading holds, each counted each time it is reached (what is shared counts as often as it is met; a slice's spare places count too). A statement '..UptoSaid' is the law's where the arguments, and the package variables that the reading takes, are together of bulk at most 1048576: NARROWER than '..Said'. Prove '..Said' where nothing that the law and all that it calls make is longer than what came in: it says more and counts as full. Else prove '..UptoSaid'. A law counts once. -/
mutual
def uptoBulk {H : Type} : DataW H → Nat
  | .lit (.string bytes) => bytes.length + 1
  | .lit _ => 1
  | .nil => 1
  | .ptr d => uptoBulk d + 1
  | .slice elems spare => uptoBulkAll elems + uptoBulkAll spare + 1
  | .agg parts => uptoBulkAll parts + 1
  | .iface _ d => uptoBulk d + 1
  | .map entries => uptoBulkEntries entries + 1
  | .held _ => 1
def uptoBulkAll {H : Type} : List (DataW H) → Nat
  | [] => 0
  | d :: r => uptoBulk d + uptoBulkAll r
def uptoBulkEntries {H : Type} : List (Lit × DataW H) → Nat
  | [] => 0
  | x :: r => uptoBulkEntry x + uptoBulkEntries r
def uptoBulkEntry {H : Type} : Lit × DataW H → Nat
  | (.string bytes, d) => bytes.length + uptoBulk d + 1
  | (_, d) => uptoBulk d + 1
 end
def uptoSmall : (H : Type) → List (DataW H) → Bool := fun _ ds => decide (uptoBulkAll ds ≤ 1048576)
def OpenSpec.upto (s : _root_.Go.ChangeSpec) : _root_.Go.OpenSpec := { _root_.Go.OpenSpec.ofChange s with cond := some uptoSmall }

/-- 'tallystonelaw25.MethodAll', WHERE WHAT IT READS IS OF BULK AT MOST 1048576: true; the input reads as it did. -/
def methodAllUptoRow : OpenClaim := { program := "ytkpdimbblcmnaaa", sum := "fcbcae95d9c1cce8aabb13059ab995825aef70d6db9b55d7c0d9c09f29b2266c", func := "tallystone/tallystonelaw25.MethodAll", spec := "methodAll", unfollowed := true, recurses := true, plainKeys := false, apart := false, narrowed := true }
def MethodAllUptoSaid : Prop := methodAllUptoRow.holds Try.pinned (OpenSpec.upto methodAllSpec)

/-- 'tallystonelaw25.MethodJoint', WHERE WHAT IT READS IS OF BULK AT MOST 1048576: true; the input reads as it did. -/
def methodJointUptoRow : OpenClaim := { program := "ytkpdimbblcmnaaa", sum := "fcbcae95d9c1cce8aabb13059ab995825aef70d6db9b55d7c0d9c09f29b2266c", func := "tallystone/tallystonelaw25.MethodJoint", spec := "methodJoint", unfollowed := true, recurses := true, plainKeys := false, apart := false, narrowed := true }
def MethodJointUptoSaid : Prop := methodJointUptoRow.holds Try.pinned (OpenSpec.upto methodJointSpec)

/-- 'tallystonelaw25.MethodAt', WHERE WHAT IT READS IS OF BULK AT MOST 1048576: true; the input reads as it did. -/
def methodAtUptoRow : OpenClaim := { program := "ytkpdimbblcmnaaa", sum := "fcbcae95d9c1cce8aabb13059ab995825aef70d6db9b55d7c0d9c09f29b2266c", func := "tallystone/tallystonelaw25.MethodAt", spec := "methodAt", unfollowed := true, recurses := true, plainKeys := false, apart := false, narrowed := true }
def MethodAtUptoSaid : Prop := methodAtUptoRow.holds Try.pinned (OpenSpec.upto methodAtSpec)

/-- 'tallystonelaw25.MethodAlone', WHERE WHAT IT READS IS OF BULK AT MOST 1048576: true; the input reads as it did. -/
def methodAloneUptoRow : OpenClaim := { program := "ytkpdimbblcmnaaa", sum := "fcbcae95d9c1cce8aabb13059ab995825aef70d6db9b55d7c0d9c09f29b2266c", func := "tallystone/tallystonelaw25.MethodAlone", spec := "methodAlone", unfollowed := true, recurses := true, plainKeys := false, apart := false, narrowed := true }
def MethodAloneUptoSaid : Prop := methodAloneUptoRow.holds Try.pinned (OpenSpec.upto methodAloneSpec)

/-- 'tallystonelaw26.ScopeIntervals', WHERE WHAT IT READS IS OF BULK AT MOST 1048576: true; the input reads as it did. -/
def scopeIntervalsUptoRow : OpenClaim := { program := "ytkpdimbblcmnaaa", sum := "fcbcae95d9c1cce8aabb13059ab995825aef70d6db9b55d7c0d9c09f29b2266c", func := "tallystone/tallystonelaw26.ScopeIntervals", spec := "scopeIntervals", unfollowed := true, recurses := true, plainKeys := false, apart := false, narrowed := true }
def ScopeIntervalsUptoSaid : Prop := scopeIntervalsUptoRow.holds Try.pinned (OpenSpec.upto scopeIntervalsSpec)

/-- 'tallystonelaw26.ScopeParts', WHERE WHAT IT READS IS OF BULK AT MOST 1048576: true; the input reads as it did. -/
def scopePartsUptoRow : OpenClaim := { program := "ytkpdimbblcmnaaa", sum := "fcbcae95d9c1cce8aabb13059ab995825aef70d6db9b55d7c0d9c09f29b2266c", func := "tallystone/tallystonelaw26.ScopeParts", spec := "scopeParts", unfollowed := true, recurses := true, plainKeys := false, apart := false, narrowed := true }
def ScopePartsUptoSaid : Prop := scopePartsUptoRow.holds Try.pinned (OpenSpec.upto scopePartsSpec)

/-- 'tallystonelaw26.ScopeCovers', WHERE WHAT IT READS IS OF BULK AT MOST 1048576: true; the input reads as it did. -/
def scopeCoversUptoRow : OpenClaim := { program := "ytkpdimbblcmnaaa", sum := "fcbcae95d9c1cce8aabb13059ab995825aef70d6db9b55d7c0d9c09f29b2266c", func := "tallystone/tallystonelaw26.ScopeCovers", spec := "scopeCovers", unfollowed := true, recurses := true, plainKeys := false, apart := false, narrowed := true }
def ScopeCoversUptoSaid : Prop := scopeCoversUptoRow.holds Try.pinned (OpenSpec.upto scopeCoversSpec)

/-- 'tallystonelaw26.ScopeFew', WHERE WHAT IT READS IS OF BULK AT MOST 1048576: true; the input reads as it did. -/
def scopeFewUptoRow : OpenClaim := { program := "ytkpdimbblcmnaaa", sum := "fcbcae95d9c1cce8aabb13059ab995825aef70d6db9b55d7c0d9c09f29b2266c", func := "tallystone/tallystonelaw26.ScopeFew", spec := "scopeFew", unfollowed := true, recurses := true, plainKeys := false, apart := false, narrowed := true }
def ScopeFewUptoSaid : Prop := scopeFewUptoRow.holds Try.pinned (OpenSpec.upto scopeFewSpec)

/-- 'tallystonelaw26.ScopeCurrent', WHERE WHAT IT READS IS OF BULK AT MOST 1048576: true; the input reads as it did. -/
def scopeCurrentUptoRow : OpenClaim := { program := "ytkpdimbblcmnaaa", sum := "fcbcae95d9c1cce8aabb13059ab995825aef70d6db9b55d7c0d9c09f29b2266c", func := "tallystone/tallystonelaw26.ScopeCurrent", spec := "scopeCurrent", unfollowed := true, recurses := true, plainKeys := false, apart := false, narrowed := true }
def ScopeCurrentUptoSaid : Prop := scopeCurrentUptoRow.holds Try.pinned (OpenSpec.upto scopeCurrentSpec)

/-- 'tallystonelaw26.ScopeMethods', WHERE WHAT IT READS IS OF BULK AT MOST 1048576: true; the input reads as it did. -/
def scopeMethodsUptoRow : OpenClaim := { program := "ytkpdimbblcmnaaa", sum := "fcbcae95d9c1cce8aabb13059ab995825aef70d6db9b55d7c0d9c09f29b2266c", func := "tallystone/tallystonelaw26.ScopeMethods", spec := "scopeMethods", unfollowed := true, recurses := true, plainKeys := false, apart := false, narrowed := true }
def ScopeMethodsUptoSaid : Prop := scopeMethodsUptoRow.holds Try.pinned (OpenSpec.upto scopeMethodsSpec)

end Rows
end Go.Proofs.Ytkpdimbblcmnaaa
