/- The example of the document (control), equal lists of bools, codes: the walks. -/
import Derived.Test.YtmlpdpacefnngaaCtlCtl
import Derived.Test.YtmlpdpacefnngaaCodes
import Derived.Deep.QuietTactic
import Derived.BigQuiet
namespace Go.Proofs.Ytmlpdpacefnngaa
open Go.RowKit
set_option linter.unusedSimpArgs false
set_option linter.unusedVariables false

def exC : List Hol := [⟨0, 1, 0, 6000⟩, ⟨0, 2, 0, 3000⟩, ⟨1, 2, 0, 3000⟩, ⟨2, 3, 0, 10000⟩]
theorem exC_ok : ∀ x ∈ exC, x.Ok := by
  intro x hx
  simp only [exC, List.mem_cons, List.not_mem_nil, or_false] at hx
  rcases hx with rfl | rfl | rfl | rfl <;> (refine ⟨?_, ?_, ?_, ?_⟩ <;> (unfold I64; decide))
theorem exC_rank : rankR 4 exC 0 = ([0, 1, 2, 3], 0) := by decide +kernel
theorem exCV (w : World) : Hols (w.alloc (.cells #[.int .i64 0, .int .i64 1, .int .i64 0, .int .i64 6000, .int .i64 0, .int .i64 2, .int .i64 0, .int .i64 3000, .int .i64 1, .int .i64 2, .int .i64 0, .int .i64 3000, .int .i64 2, .int .i64 3, .int .i64 0, .int .i64 10000] 27)) (some ⟨w.heap.size, 0, none⟩) exC 4 w.heap.size 0 :=
  Sl.lit w 4 4 [.int .i64 0, .int .i64 1, .int .i64 0, .int .i64 6000, .int .i64 0, .int .i64 2, .int .i64 0, .int .i64 3000, .int .i64 1, .int .i64 2, .int .i64 0, .int .i64 3000, .int .i64 2, .int .i64 3, .int .i64 0, .int .i64 10000] 27 rfl (by omega)
theorem codes_eq (xs : List Int) (ao ao2 : Option Addr) (cap b o cap2 b2 o2 : Nat) (w : World) (h : Sl w 1 ao xs.length cap b o (xs.map (.int .i64))) (h2 : Sl w 1 ao2 xs.length cap2 b2 o2 (xs.map (.int .i64))) :
    Calls Try.prog 22 #[.slice ao xs.length cap, .slice ao2 xs.length cap2] w fun e w' => e = .returned (.bool true) ∧ Keeps w w' :=
  (codes_any xs xs ao ao2 cap b o cap2 b2 o2 w h h2).mono fun e w' ⟨h1, q, h2⟩ => ⟨by simpa using h1, by rw [h2]; exact (Keeps.refl w).drewN q⟩
set_option maxHeartbeats 1000000 in
theorem cawake_any (w : World) : Calls Try.prog 32 #[] w fun e w' => e = .returned (.bool true) ∧ Keeps w w' := by
  have HA : Hid (∀ W ao b o, Hols W ao exC 4 b o → Calls Try.prog 36 #[.int .i64 4, .slice ao 4 4, .int .i64 0] W fun e w' => ∃ ao cap b o, e = .returned (.tuple #[.slice ao 4 cap, .int .i64 0]) ∧ Sl w' 1 ao 4 cap b o [.int .i64 0, .int .i64 1, .int .i64 2, .int .i64 3] ∧ Keeps W w') := Lib.hid (fun W ao b o h => by
    have := rank_any 4 exC 0 ao 4 b o W h (by decide) exC_ok
    rw [exC_rank] at this
    exact this)
  go_enter Try.func32, Try.ntmps32
  go_wp2_with (first | (go_at_call 36; refine (HA.out _ _ _ _ (exCV w)).mono ?_; rintro e w1 ⟨ao1, cap1, b1, o1, rfl, hs1, hk1⟩) | (go_at_call 22; refine (codes_eq [0, 1, 2, 3] _ _ _ b1 o1 _ w1.heap.size 0 _ (hs1.keeps ((Keeps.refl w1).alloc _)) (Sl.lit w1 1 4 [.int .i64 0, .int .i64 1, .int .i64 2, .int .i64 3] 3 rfl (by omega))).mono ?_; rintro e w2 ⟨rfl, hk2⟩))
  go_ret
  exact ⟨rfl, (((Keeps.refl w).alloc _).trans hk1).trans (((Keeps.refl w1).alloc _).trans hk2)⟩
set_option maxRecDepth 100000 in
set_option maxHeartbeats 1000000 in
theorem sameBools_any (l : List Bool) (ao ao2 : Option Addr) (cap b o cap2 b2 o2 : Nat) (w : World) (H : Sl w 1 ao l.length cap b o (l.map .bool)) (H2 : Sl w 1 ao2 l.length cap2 b2 o2 (l.map .bool)) :
    Calls Try.prog 35 #[.slice ao l.length cap, .slice ao2 l.length cap2] w fun e w' => e = .returned (.bool true) ∧ Keeps w w' := by
  have hcap := Sl.cap H
  have hle := Sl.le H
  have hcap2 := Sl.cap H2
  have hle2 := Sl.le H2
  go_enter Try.func35, Try.ntmps35
  go_wp2_with fail
  go_loopw [5] (fun vi wr => ∃ k q : Nat, k ≤ l.length ∧ vi = .int .i64 k ∧ wr = w.drewN q) (fun vi _ => l.length - (intOf vi).toNat)
  case atStart => exact ⟨0, 0, Nat.zero_le _, rfl, rfl⟩
  case round =>
    obtain ⟨k, q, hk, rfl, rfl⟩ := hrel
    by_cases hlt : k < l.length
    · have hix := Sl.at1 H Try.underlying48 Try.sizeOf4 k hlt
      have hix2 := Sl.at1 H2 Try.underlying48 Try.sizeOf4 k hlt
      have c0 := H.cell k (.bool l[k]) (by simp [hlt])
      have d0 := H2.cell k (.bool l[k]) (by simp [hlt])
      go_wp2_with fail
      go_quiet (fail)
      go_wp2_with fail
      go_roundw
      case rel => exact ⟨k + 1, _, by omega, by go_num, by first | rfl | exact World.drewN_drewN _ _ _⟩
      case measure => simp [intOf]; omega
    · go_wp2
      go_ret
      exact ⟨rfl, (Keeps.refl w).drewN _⟩
theorem fnB_cell {w : World} {ao : Option Addr} {φ : Nat → Bool} {n cap b o : Nat} (H : Sl w 1 ao n cap b o ((fnB φ n).map .bool)) (k : Nat) (hk : k < n) : w.cell? ⟨b, o + k, none⟩ = some (.bool (φ k)) :=
  H.cell k _ (by simp [fnB, hk])
end Go.Proofs.Ytmlpdpacefnngaa
