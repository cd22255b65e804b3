/- The reference's SameAll of holdings at equal lists: the walk. -/
import Derived.Test.YtmlpdpacefnngaaProg
import Derived.Test.YtmlpdpacefnngaaHolP
import Derived.Test.YtmlpdpacefnngaaApp2
import Derived.Deep.QuietTactic
import Derived.BigQuiet
import Derived.Laws.StructEq
namespace Go.Proofs.Ytmlpdpacefnngaa
open Go.RowKit
set_option linter.unusedSimpArgs false
set_option linter.unusedVariables false

theorem neqHol (a b c d : Int) (w : World) : (binOp .neq 27 (.agg #[.int .i64 a, .int .i64 b, .int .i64 c, .int .i64 d]) (.agg #[.int .i64 a, .int .i64 b, .int .i64 c, .int .i64 d])).run Try.prog w = .ok (.bool false) w := by
  go_simp
set_option maxRecDepth 100000 in
set_option maxHeartbeats 1000000 in
theorem sameAll_any (l : List Hol) (ao ao2 : Option Addr) (cap b o cap2 b2 o2 : Nat) (w : World) (H : Hols w ao l cap b o) (H2 : Hols w ao2 l cap2 b2 o2) :
    Calls Try.prog 27 #[.slice ao l.length cap, .slice ao2 l.length cap2] w fun e w' => e = .returned (.bool true) ∧ Keeps w w' := by
  have hcap := Sl.cap H
  have hle := Sl.le H
  have hcap2 := Sl.cap H2
  have hle2 := Sl.le H2
  have hneq := neqHol
  go_enter Try.func27, Try.ntmps27
  go_wp2_with fail
  go_loopw [5] (fun vi wr => ∃ k q : Nat, k ≤ l.length ∧ vi = .int .i64 k ∧ wr = w.drewN q) (fun vi _ => l.length - (intOf vi).toNat)
  case atStart => exact ⟨0, 0, Nat.zero_le _, rfl, rfl⟩
  case round =>
    obtain ⟨k, q, hk, rfl, rfl⟩ := hrel
    by_cases hlt : k < l.length
    · have hix := Sl.at H Try.underlying22 Try.sizeOf27 k hlt
      have c0 := H.cell Hol.len k hlt 0 _ rfl
      have c1 := H.cell Hol.len k hlt 1 _ rfl
      have c2 := H.cell Hol.len k hlt 2 _ rfl
      have c3 := H.cell Hol.len k hlt 3 _ rfl
      have hix2 := Sl.at H2 Try.underlying22 Try.sizeOf27 k hlt
      have d0 := H2.cell Hol.len k hlt 0 _ rfl
      have d1 := H2.cell Hol.len k hlt 1 _ rfl
      have d2 := H2.cell Hol.len k hlt 2 _ rfl
      have d3 := H2.cell Hol.len k hlt 3 _ rfl
      simp only [Nat.add_zero] at c0 d0
      go_wp2_with fail
      go_quiet (fail)
      go_wp2_with fail
      go_roundw
      case rel => exact ⟨k + 1, _, by omega, by go_num, rfl⟩
      case measure => simp [intOf]; omega
    · go_wp2
      go_ret
      exact ⟨rfl, (Keeps.refl w).drewN _⟩
end Go.Proofs.Ytmlpdpacefnngaa
