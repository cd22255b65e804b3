/- The reference's SameMatrix at equal rows: the walk. -/
import Derived.Test.YtmlpdpacefnngaaProg
import Derived.Test.YtmlpdpacefnngaaRowsP
import Derived.Deep.QuietTactic
import Derived.BigQuiet
namespace Go.Proofs.Ytmlpdpacefnngaa
open Go.RowKit
set_option linter.unusedSimpArgs false
set_option linter.unusedVariables false

set_option maxRecDepth 100000 in
set_option maxHeartbeats 2000000 in
theorem sameM_any (ls : List (List Int)) (ao ao2 : Option Addr) (cap b o cap2 b2 o2 : Nat) (w : World) (H : Rows w ao ls cap b o) (H2 : Rows w ao2 ls cap2 b2 o2) :
    Calls Try.prog 30 #[.slice ao ls.length cap, .slice ao2 ls.length cap2] w fun e w' => e = .returned (.bool true) ∧ Keeps w w' := by
  have hcap := H.cap
  have hle := H.le
  have hcap2 := H2.cap
  have hle2 := H2.le
  have HH := Lib.hid H
  have HH2 := Lib.hid H2
  clear H H2
  go_enter Try.func30, Try.ntmps30
  go_wp2_with fail
  go_loopw [5] (fun vi wr => ∃ k q : Nat, k ≤ ls.length ∧ vi = .int .i64 k ∧ wr = w.drewN q) (fun vi _ => ls.length - (intOf vi).toNat)
  case atStart => exact ⟨0, 0, Nat.zero_le _, rfl, rfl⟩
  case round =>
    obtain ⟨k, q, hk, rfl, rfl⟩ := hrel
    by_cases hlt : k < ls.length
    · have hix := HH.out.at1 Try.underlying42 Try.sizeOf31 k hlt
      have hix2 := HH2.out.at1 Try.underlying42 Try.sizeOf31 k hlt
      obtain ⟨ap, cp, bp, op, c0, hs⟩ := HH.out.at k hlt
      obtain ⟨aq, cq, bq, oq, d0, hs2⟩ := HH2.out.at k hlt
      obtain ⟨xs, hxs⟩ : ∃ xs, ls[k] = xs := ⟨_, rfl⟩
      rw [hxs] at c0 d0 hs hs2
      have hcp := hs.cap
      have hlp := hs.le
      have hcq := hs2.cap
      have hlq := hs2.le
      have HS := Lib.hid hs
      have HS2 := Lib.hid hs2
      clear hxs hs hs2
      go_wp2_with fail
      go_quiet (fail)
      go_wp2_with fail
      go_loopw [6] (fun vi wr => ∃ j r : Nat, j ≤ xs.length ∧ vi = .int .i64 j ∧ wr = w.drewN r) (fun vi _ => xs.length - (intOf vi).toNat)
      case atStart => exact ⟨0, _, Nat.zero_le _, rfl, by first | rfl | exact World.drewN_drewN _ _ _⟩
      case round =>
        obtain ⟨j, r, hj, rfl, rfl⟩ := hrel
        by_cases hlj : j < xs.length
        · have hiy := HS.out.at1 Try.underlying31 Try.sizeOf3 j hlj
          have hiy2 := HS2.out.at1 Try.underlying31 Try.sizeOf3 j hlj
          have y0 := HS.out.int j hlj
          have z0 := HS2.out.int j hlj
          go_wp2_with fail
          go_quiet (fail)
          go_wp2_with fail
          go_roundw
          case rel => exact ⟨j + 1, _, by omega, by go_num, by first | rfl | exact World.drewN_drewN _ _ _⟩
          case measure => simp [intOf]; omega
        · go_wp2_with fail
          go_roundw
          case rel => exact ⟨k + 1, _, by omega, by go_num, rfl⟩
          case measure => simp [intOf]; omega
    · go_wp2_with fail
      go_ret
      exact ⟨rfl, (Keeps.refl w).drewN _⟩
end Go.Proofs.Ytmlpdpacefnngaa
