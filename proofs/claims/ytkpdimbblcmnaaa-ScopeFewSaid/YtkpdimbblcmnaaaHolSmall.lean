/- Proper holdings; equal ones; the first one of a holder; the reference's Total: the walks. -/
import Derived.Test.YtkpdimbblcmnaaaKHolP
import Derived.Test.YtkpdimbblcmnaaaHolRAt
import Derived.Test.YtkpdimbblcmnaaaAtP
namespace Go.Proofs.Ytkpdimbblcmnaaa
open Go.RowKit
set_option linter.unusedSimpArgs false
set_option linter.unusedVariables false

theorem hdate_any (d : Int) (w : World) : Calls Try.prog 43 #[.int .i64 d] w fun e w' => e = .returned (.bool (dateB d)) ∧ w = w' := by
  by_cases h : -25567 ≤ d
  · go_enter Try.func43, Try.ntmps43
    go_wp2
    go_ret
    exact ⟨retb (by first | (simp [dateB, h]; done) | (simp [dateB]; omega)), rfl⟩
  · go_enter Try.func43, Try.ntmps43
    go_wp2
    go_ret
    exact ⟨retb (by first | (simp [dateB, h]; done) | (simp [dateB]; omega)), rfl⟩
theorem hrdate_any (d : Int) (w : World) : Calls Try.prog 28 #[.int .i64 d] w fun e w' => e = .returned (.bool (dateB d)) ∧ w = w' := by
  by_cases h : -25567 ≤ d
  · go_enter Try.func28, Try.ntmps28
    go_wp2
    go_ret
    exact ⟨retb (by first | (simp [dateB, h]; done) | (simp [dateB]; omega)), rfl⟩
  · go_enter Try.func28, Try.ntmps28
    go_wp2
    go_ret
    exact ⟨retb (by first | (simp [dateB, h]; done) | (simp [dateB]; omega)), rfl⟩

def sameH (a b : Hol) : Bool := a.holder == b.holder && a.entity == b.entity && a.date == b.date
/-- A holding is proper for n entities. -/
def properB (n : Int) (x : Hol) : Bool := decide (0 ≤ x.holder) && decide (x.holder < n) && decide (0 ≤ x.entity) && decide (x.entity < n) && (x.holder != x.entity) && dateB x.date && decide (0 ≤ x.share) && decide (x.share ≤ 10000)
set_option maxRecDepth 100000 in
set_option maxHeartbeats 2000000 in
theorem rsame_any (a b : Hol) (w : World) : Calls Try.prog 42 #[.agg #[.int .i64 a.holder, .int .i64 a.entity, .int .i64 a.date, .int .i64 a.share], .agg #[.int .i64 b.holder, .int .i64 b.entity, .int .i64 b.date, .int .i64 b.share]] w fun e w' => e = .returned (.bool (sameH a b)) ∧ Keeps w w' := by
  cases h1 : (a.holder == b.holder) with
  | false =>
    have HQ : Hid (sameH a b = false) := Lib.hid (by simp [sameH, h1])
    go_enter Try.func42, Try.ntmps42
    go_wp2
    go_ret
    rw [HQ.out]
    exact ⟨rfl, ((Keeps.refl w).alloc _).alloc _⟩
  | true =>
    cases h2 : (a.entity == b.entity) with
    | false =>
      have HQ : Hid (sameH a b = false) := Lib.hid (by simp [sameH, h1, h2])
      go_enter Try.func42, Try.ntmps42
      go_wp2
      go_ret
      rw [HQ.out]
      exact ⟨rfl, ((Keeps.refl w).alloc _).alloc _⟩
    | true =>
      have HQ : Hid (sameH a b = (a.date == b.date)) := Lib.hid (by simp [sameH, h1, h2])
      go_enter Try.func42, Try.ntmps42
      go_wp2
      go_ret
      rw [HQ.out]
      exact ⟨rfl, ((Keeps.refl w).alloc _).alloc _⟩
set_option maxRecDepth 100000 in
set_option maxHeartbeats 4000000 in
theorem rproperH_any (n : Int) (x : Hol) (w : World) : Calls Try.prog 41 #[.int .i64 n, .agg #[.int .i64 x.holder, .int .i64 x.entity, .int .i64 x.date, .int .i64 x.share]] w fun e w' => e = .returned (.bool (properB n x)) ∧ Keeps w w' := by
  obtain ⟨dv, hdv⟩ : ∃ dv, dateB x.date = dv := ⟨_, rfl⟩
  have HD : Hid (∀ W, Calls Try.prog 28 #[.int .i64 x.date] W fun e w' => e = .returned (.bool dv) ∧ W = w') := Lib.hid (fun W => by have := hrdate_any x.date W; rw [hdv] at this; exact this)
  by_cases h1 : 0 ≤ x.holder
  · by_cases h2 : x.holder < n
    · by_cases h3 : 0 ≤ x.entity
      · by_cases h4 : x.entity < n
        · cases h5 : (x.holder != x.entity) with
          | false =>
            have HQ : Hid (properB n x = false) := Lib.hid (by simp only [properB, h5, Bool.and_false, Bool.false_and])
            clear hdv
            go_enter Try.func41, Try.ntmps41
            go_wp2_with (go_at_call 28; refine (HD.out _).mono ?_; rintro e w1 ⟨rfl, rfl⟩)
            go_ret
            rw [HQ.out]
            exact ⟨rfl, (Keeps.refl w).alloc _⟩
          | true =>
            cases dv with
            | false =>
              have HQ : Hid (properB n x = false) := Lib.hid (by simp only [properB, hdv, Bool.and_false, Bool.false_and])
              clear hdv
              go_enter Try.func41, Try.ntmps41
              go_wp2_with (go_at_call 28; refine (HD.out _).mono ?_; rintro e w1 ⟨rfl, rfl⟩)
              go_ret
              rw [HQ.out]
              exact ⟨rfl, (Keeps.refl w).alloc _⟩
            | true =>
              by_cases h6 : 0 ≤ x.share
              · have HQ : Hid (properB n x = decide (x.share ≤ 10000)) := Lib.hid (by simp only [properB, h5, hdv, decide_eq_true h1, decide_eq_true h2, decide_eq_true h3, decide_eq_true h4, decide_eq_true h6, Bool.true_and])
                clear hdv
                go_enter Try.func41, Try.ntmps41
                go_wp2_with (go_at_call 28; refine (HD.out _).mono ?_; rintro e w1 ⟨rfl, rfl⟩)
                go_ret
                rw [HQ.out]
                exact ⟨rfl, (Keeps.refl w).alloc _⟩
              · have HQ : Hid (properB n x = false) := Lib.hid (by simp only [properB, decide_eq_false h6, Bool.and_false, Bool.false_and])
                clear hdv
                go_enter Try.func41, Try.ntmps41
                go_wp2_with (go_at_call 28; refine (HD.out _).mono ?_; rintro e w1 ⟨rfl, rfl⟩)
                go_ret
                rw [HQ.out]
                exact ⟨rfl, (Keeps.refl w).alloc _⟩
        · have HQ : Hid (properB n x = false) := Lib.hid (by simp only [properB, decide_eq_false h4, Bool.and_false, Bool.false_and])
          clear hdv
          go_enter Try.func41, Try.ntmps41
          go_wp2_with (go_at_call 28; refine (HD.out _).mono ?_; rintro e w1 ⟨rfl, rfl⟩)
          go_ret
          rw [HQ.out]
          exact ⟨rfl, (Keeps.refl w).alloc _⟩
      · have HQ : Hid (properB n x = false) := Lib.hid (by simp only [properB, decide_eq_false h3, Bool.and_false, Bool.false_and])
        clear hdv
        go_enter Try.func41, Try.ntmps41
        go_wp2_with (go_at_call 28; refine (HD.out _).mono ?_; rintro e w1 ⟨rfl, rfl⟩)
        go_ret
        rw [HQ.out]
        exact ⟨rfl, (Keeps.refl w).alloc _⟩
    · have HQ : Hid (properB n x = false) := Lib.hid (by simp only [properB, decide_eq_false h2, Bool.and_false, Bool.false_and])
      clear hdv
      go_enter Try.func41, Try.ntmps41
      go_wp2_with (go_at_call 28; refine (HD.out _).mono ?_; rintro e w1 ⟨rfl, rfl⟩)
      go_ret
      rw [HQ.out]
      exact ⟨rfl, (Keeps.refl w).alloc _⟩
  · have HQ : Hid (properB n x = false) := Lib.hid (by simp only [properB, decide_eq_false h1, Bool.false_and])
    clear hdv
    go_enter Try.func41, Try.ntmps41
    go_wp2_with (go_at_call 28; refine (HD.out _).mono ?_; rintro e w1 ⟨rfl, rfl⟩)
    go_ret
    rw [HQ.out]
    exact ⟨rfl, (Keeps.refl w).alloc _⟩
/-- The holding at k is the first one of its holder. -/
def firstB (l : List Hol) (k : Nat) : Bool := match l[k]? with
  | none => true
  | some x => !(firstsH (l.take k)).contains x.holder
set_option maxRecDepth 100000 in
set_option maxHeartbeats 2000000 in
theorem rfirst_any (ao : Option Addr) (l : List Hol) (cap b o k : Nat) (w : World) (H : Hols w ao l cap b o) (hk : k < l.length) :
    Calls Try.prog 62 #[.slice ao l.length cap, .int .i64 (k : Int)] w fun e w' => e = .returned (.bool (!(firstsH (l.take k)).contains l[k].holder)) ∧ Keeps w w' := by
  have hcap := Sl.cap H
  have hle := Sl.le H
  have hix := Sl.at H Try.underlying23 Try.sizeOf46 k hk
  have c0 := H.cell Hol.len k hk 0 _ rfl
  simp only [Nat.add_zero] at c0
  have HH := Lib.hid H
  clear H
  go_enter Try.func62, Try.ntmps62
  go_wp2_with fail
  go_loopw [5] (fun vi wr => ∃ j q : Nat, j ≤ k ∧ vi = .int .i64 j ∧ Hid (∀ i (hi : i < l.length), i < j → l[i].holder ≠ l[k].holder) ∧ wr = w.drewN q) (fun vi _ => k - (intOf vi).toNat)
  case atStart => exact ⟨0, 0, Nat.zero_le _, rfl, Lib.hid (fun i _ h => absurd h (Nat.not_lt_zero _)), rfl⟩
  case round =>
    obtain ⟨j, q, hj, rfl, HN, rfl⟩ := hrel
    by_cases hlt : j < k
    · have hiy := Sl.at HH.out Try.underlying23 Try.sizeOf46 j (by omega)
      have d0 := HH.out.cell Hol.len j (by omega) 0 _ rfl
      simp only [Nat.add_zero] at d0
      cases he : ((l[j]'(by omega)).holder == l[k].holder) with
      | true =>
        have HQ : Hid ((!(firstsH (l.take k)).contains l[k].holder) = false) := Lib.hid (by
          have : l[k].holder ∈ firstsH (l.take k) := (firstsH_mem _ _).2 ⟨l[j]'(by omega), by rw [List.mem_take_iff_getElem]; exact ⟨j, by omega, rfl⟩, by simpa using he⟩
          simp [this])
        go_wp2_with fail
        go_quiet (fail)
        go_wp2_with fail
        go_ret
        rw [HQ.out]
        exact ⟨rfl, by rw [World.drewN_drewN]; exact (Keeps.refl w).drewN _⟩
      | false =>
        have HN2 : Hid (∀ i (hi : i < l.length), i < j + 1 → l[i].holder ≠ l[k].holder) := Lib.hid (fun i hi h => by
          rcases Nat.lt_succ_iff_lt_or_eq.1 h with h | rfl
          · exact HN.out i hi h
          · simpa using he)
        go_wp2_with fail
        go_quiet (fail)
        go_wp2_with fail
        go_roundw
        case rel => exact ⟨j + 1, _, by omega, by go_num, HN2, rfl⟩
        case measure => simp [intOf]; omega
    · obtain rfl : j = k := by omega
      have HQ : Hid ((!(firstsH (l.take j)).contains l[j].holder) = true) := Lib.hid (by
        have : l[j].holder ∉ firstsH (l.take j) := by
          intro h
          obtain ⟨x, hx, hxe⟩ := (firstsH_mem _ _).1 h
          rw [List.mem_take_iff_getElem] at hx
          obtain ⟨i, hi, rfl⟩ := hx
          exact HN.out i (by omega) (by omega) hxe
        simp [this])
      go_wp2_with fail
      go_ret
      rw [HQ.out]
      exact ⟨rfl, (Keeps.refl w).drewN _⟩
end Go.Proofs.Ytkpdimbblcmnaaa
