/- Balances: amounts, ascending lists, equal lists: the walks. -/
import Derived.Test.YtppjjmjdiccloabRecs
import Derived.Test.YtppjjmjdiccloabProg
import Derived.Test.YtppjjmjdiccloabMoveP
import Derived.Deep.QuietTactic
import Derived.BigQuiet
import Derived.IntWalk
import Derived.Laws.StructEq
namespace Go.Proofs.Ytppjjmjdiccloab
open Go.RowKit
set_option linter.unusedSimpArgs false
set_option linter.unusedVariables false

theorem amount_any (n : Int) (w : World) : Calls Try.prog 33 #[.int .i64 n] w fun e w' => e = .returned (.bool (amtB n)) ∧ w' = w := by
  by_cases h : -1000000000000 ≤ n
  · go_enter Try.func33, Try.ntmps33
    go_wp2
    go_ret
    exact ⟨retb (by simp [amtB]; omega), rfl⟩
  · go_enter Try.func33, Try.ntmps33
    go_wp2
    go_ret
    exact ⟨retb (by simp [amtB]; omega), rfl⟩
theorem ramount_any (n : Int) (w : World) : Calls Try.prog 37 #[.int .i64 n] w fun e w' => e = .returned (.bool (amtB n)) ∧ w' = w := by
  by_cases h : -1000000000000 ≤ n
  · go_enter Try.func37, Try.ntmps37
    go_wp2
    go_ret
    exact ⟨retb (by simp [amtB]; omega), rfl⟩
  · go_enter Try.func37, Try.ntmps37
    go_wp2
    go_ret
    exact ⟨retb (by simp [amtB]; omega), rfl⟩

theorem quiet_add_same {P : Program} {f : FuncId} {args : Array Value} {w : World} {a n : Nat} {v : Value}
    (h : Calls P f args (w.drewN (a + n)) fun e w' => e = .returned v ∧ w' = w.drewN (a + n)) :
    Calls P f args (w.drewN (a + n)) fun e w'' => e = .returned v ∧ ∃ m, w'' = w.drewN (a + m) :=
  h.mono fun _ _ ⟨he, hm⟩ => ⟨he, n, hm⟩

set_option maxRecDepth 100000 in
set_option maxHeartbeats 1000000 in
theorem asc_any (l : List Bal) (ao : Option Addr) (cap b o : Nat) (w : World) (H : Bals w ao l cap b o) :
    Calls Try.prog 35 #[.slice ao l.length cap] w fun e w' => Gives w (.bool (ascB l)) e w' := by
  have hcap := Sl.cap H
  have hle := Sl.le H
  go_enter Try.func35, Try.ntmps35
  go_wp2_with fail
  go_loopw [3] (fun vi wr => ∃ k q : Nat, k ≤ l.length ∧ vi = .int .i64 k ∧ Hid (∀ j, j < k → okAt l j = true) ∧ wr = w.drewN q) (fun vi _ => l.length - (intOf vi).toNat)
  case atStart => exact ⟨0, 0, Nat.zero_le _, rfl, Lib.hid (fun j h => absurd h (Nat.not_lt_zero _)), rfl⟩
  case round =>
    obtain ⟨k, q, hk, rfl, HN, rfl⟩ := hrel
    by_cases hlt : k < l.length
    · have hix := Sl.at H Try.underlying41 Try.sizeOf65 k hlt
      have c0 := H.cell Bal.len k hlt 0 _ rfl
      have c1 := H.cell Bal.len k hlt 1 _ rfl
      simp only [Nat.add_zero] at c0
      cases hok : okAt l k with
      | true =>
        have HN2 : Hid (∀ j, j < k + 1 → okAt l j = true) := Lib.hid (fun j h => by
          rcases Nat.lt_succ_iff_lt_or_eq.1 h with h | rfl
          · exact HN.out j h
          · exact hok)
        cases k with
        | zero =>
          rw [okAt_zero hlt] at hok
          have hq : ∀ W : World, Calls Try.prog 37 #[.int .i64 l[0].amount] W fun e w' => e = .returned (.bool true) ∧ w' = W := fun W => by have := ramount_any l[0].amount W; rw [hok] at this; exact this
          have HQ := Lib.hid hq
          simp only [Nat.zero_mul, Nat.add_zero, Int.natCast_zero] at hix c0 c1
          clear hok hq
          go_wp2_with fail
          go_quiet ((go_at_call 37; exact quiet_add_same (HQ.out _)))
          go_wp2_with fail
          go_roundw
          case rel => exact ⟨1, _, by omega, by go_num, HN2, rfl⟩
          case measure => simp [intOf]; omega
        | succ k =>
          rw [okAt_succ hlt] at hok
          simp only [Bool.and_eq_true, decide_eq_true_eq] at hok
          have hq : ∀ W : World, Calls Try.prog 37 #[.int .i64 l[k + 1].amount] W fun e w' => e = .returned (.bool true) ∧ w' = W := fun W => by have := ramount_any l[k + 1].amount W; rw [hok.1] at this; exact this
          have HQ := Lib.hid hq
          have hk2 : k < l.length := by omega
          have hix2 := Sl.at H Try.underlying41 Try.sizeOf65 k hk2
          have d0 := H.cell Bal.len k hk2 0 _ rfl
          simp only [Nat.add_zero] at d0
          have e1 : decide (l[k + 1].acc ≤ l[k].acc) = false := by have := hok.2; simp; omega
          have hw1 : IntKind.i64.wrap (k : Int) = (k : Int) := IntWalk.i64_in _ (by omega)
          rw [show (((k + 1 : Nat)) : Int) = (k : Int) + 1 from by omega] at hix
          have e2 : decide ((0 : Int) < (k : Int) + 1) = true := decide_eq_true (by omega)
          clear hok hq
          go_wp2_with fail
          go_quiet ((go_at_call 37; exact quiet_add_same (HQ.out _)))
          go_wp2_with fail
          go_roundw
          case rel => exact ⟨k + 1 + 1, _, by omega, by go_num, HN2, rfl⟩
          case measure => simp [intOf]; omega
      | false =>
        have HB := Lib.hid (ascB_bad hlt hok)
        cases k with
        | zero =>
          rw [okAt_zero hlt] at hok
          have hq : ∀ W : World, Calls Try.prog 37 #[.int .i64 l[0].amount] W fun e w' => e = .returned (.bool false) ∧ w' = W := fun W => by have := ramount_any l[0].amount W; rw [hok] at this; exact this
          have HQ := Lib.hid hq
          simp only [Nat.zero_mul, Nat.add_zero, Int.natCast_zero] at hix c0 c1
          clear hok hq
          go_wp2_with fail
          go_quiet ((go_at_call 37; exact quiet_add_same (HQ.out _)))
          go_wp2
          go_ret
          exact ⟨by rw [HB.out]; rfl, q + nq, by rw [World.drewN_drewN]⟩
        | succ k =>
          rw [okAt_succ hlt] at hok
          simp only [Bool.and_eq_false_iff, decide_eq_false_iff_not] at hok
          have hk2 : k < l.length := by omega
          have hix2 := Sl.at H Try.underlying41 Try.sizeOf65 k hk2
          have d0 := H.cell Bal.len k hk2 0 _ rfl
          simp only [Nat.add_zero] at d0
          have hw1 : IntKind.i64.wrap (k : Int) = (k : Int) := IntWalk.i64_in _ (by omega)
          rw [show (((k + 1 : Nat)) : Int) = (k : Int) + 1 from by omega] at hix
          have e2 : decide ((0 : Int) < (k : Int) + 1) = true := decide_eq_true (by omega)
          by_cases h1 : l[k].acc < l[k + 1].acc
          · have hm : amtB l[k + 1].amount = false := by rcases hok with h | h; exact h; exact absurd h1 h
            have hq : ∀ W : World, Calls Try.prog 37 #[.int .i64 l[k + 1].amount] W fun e w' => e = .returned (.bool false) ∧ w' = W := fun W => by have := ramount_any l[k + 1].amount W; rw [hm] at this; exact this
            have HQ := Lib.hid hq
            have e1 : decide (l[k + 1].acc ≤ l[k].acc) = false := by simp; omega
            clear hok hq hm
            go_wp2_with fail
            go_quiet ((go_at_call 37; exact quiet_add_same (HQ.out _)))
            go_wp2
            go_ret
            exact ⟨by rw [HB.out]; rfl, q + nq, by rw [World.drewN_drewN]⟩
          · have e1 : decide (l[k + 1].acc ≤ l[k].acc) = true := by simp; omega
            clear hok
            go_wp2_with fail
            go_quiet (fail)
            go_wp2
            go_ret
            exact ⟨by rw [HB.out]; rfl, q + nq, by rw [World.drewN_drewN]⟩
    · obtain rfl : k = l.length := by omega
      have HB := Lib.hid (ascB_good HN.out)
      go_wp2
      go_ret
      exact ⟨by rw [HB.out]; rfl, _, rfl⟩

/-- Equal lists. -/
theorem neqBal (a b : Int) (w : World) : (binOp .neq 65 (.agg #[.int .i64 a, .int .i64 b]) (.agg #[.int .i64 a, .int .i64 b])).run Try.prog w = .ok (.bool false) w := by
  go_simp
set_option maxRecDepth 100000 in
set_option maxHeartbeats 1000000 in
theorem sameB_any (l : List Bal) (ao ao2 : Option Addr) (cap b o cap2 b2 o2 : Nat) (w : World) (H : Bals w ao l cap b o) (H2 : Bals w ao2 l cap2 b2 o2) :
    Calls Try.prog 20 #[.slice ao l.length cap, .slice ao2 l.length cap2] w fun e w' => Gives w (.bool true) e w' := by
  have hcap := Sl.cap H
  have hle := Sl.le H
  have hcap2 := Sl.cap H2
  have hle2 := Sl.le H2
  have hneq := neqBal
  go_enter Try.func20, Try.ntmps20
  go_wp2_with fail
  go_loopw [5] (fun vi wr => ∃ k q : Nat, k ≤ l.length ∧ vi = .int .i64 k ∧ wr = w.drewN q) (fun vi _ => l.length - (intOf vi).toNat)
  case atStart => exact ⟨0, 0, Nat.zero_le _, rfl, rfl⟩
  case round =>
    obtain ⟨k, q, hk, rfl, rfl⟩ := hrel
    by_cases hlt : k < l.length
    · have hix := Sl.at H Try.underlying41 Try.sizeOf65 k hlt
      have c0 := H.cell Bal.len k hlt 0 _ rfl
      have c1 := H.cell Bal.len k hlt 1 _ rfl
      have hix2 := Sl.at H2 Try.underlying41 Try.sizeOf65 k hlt
      have d0 := H2.cell Bal.len k hlt 0 _ rfl
      have d1 := H2.cell Bal.len k hlt 1 _ rfl
      simp only [Nat.add_zero] at c0 d0
      go_wp2_with fail
      go_quiet (fail)
      go_wp2_with fail
      go_roundw
      case rel => exact ⟨k + 1, _, by omega, by go_num, rfl⟩
      case measure => simp [intOf]; omega
    · go_wp2
      go_ret
      exact ⟨rfl, _, rfl⟩
end Go.Proofs.Ytppjjmjdiccloab
