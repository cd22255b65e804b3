/- The reference's At on holdings: the walk. -/
import Derived.Test.YtkpdimbblcmnaaaKHolP
import Derived.Test.YtkpdimbblcmnaaaProg
import Derived.Deep.QuietTactic
import Derived.BigQuiet
import Derived.IntWalk
namespace Go.Proofs.Ytkpdimbblcmnaaa
open Go.RowKit
set_option linter.unusedSimpArgs false
set_option linter.unusedVariables false

theorem cur_take_no {l : List Hol} {h e d : Int} {k : Nat} (hk : k < l.length) (hp : pairB h e l[k] = false) : curH d (ofPair (l.take (k + 1)) h e) = curH d (ofPair (l.take k) h e) := by
  rw [take_snoc _ _ hk, ofPair_no hp]
theorem cur_take_late {l : List Hol} {h e d : Int} {k : Nat} (hk : k < l.length) (hd : ¬ l[k].date ≤ d) : curH d (ofPair (l.take (k + 1)) h e) = curH d (ofPair (l.take k) h e) := by
  cases hp : pairB h e l[k] with
  | false => exact cur_take_no hk hp
  | true => rw [take_snoc _ _ hk, ofPair_yes hp, curH_late hd]
theorem cur_take_yes {l : List Hol} {h e d : Int} {k : Nat} (hk : k < l.length) (hp : pairB h e l[k] = true) (hd : l[k].date ≤ d) (hc : ∀ m, curH d (ofPair (l.take k) h e) = some m → m.date < l[k].date) : curH d (ofPair (l.take (k + 1)) h e) = some l[k] := by
  rw [take_snoc _ _ hk, ofPair_yes hp]
  cases h1 : curH d (ofPair (l.take k) h e) with
  | none => exact curH_first hd h1
  | some m => exact curH_new hd h1 (hc m h1)
theorem cur_take_old {l : List Hol} {h e d : Int} {k : Nat} {m : Hol} (hk : k < l.length) (hc : curH d (ofPair (l.take k) h e) = some m) (hm : ¬ m.date < l[k].date) : curH d (ofPair (l.take (k + 1)) h e) = curH d (ofPair (l.take k) h e) := by
  cases hp : pairB h e l[k] with
  | false => exact cur_take_no hk hp
  | true =>
    by_cases hd : l[k].date ≤ d
    · rw [take_snoc _ _ hk, ofPair_yes hp, curH_old hd hc hm, hc]
    · exact cur_take_late hk hd
set_option maxRecDepth 100000 in
set_option maxHeartbeats 4000000 in
theorem rhat_any (ao : Option Addr) (l : List Hol) (cap b o : Nat) (h e d : Int) (w : World) (H : Hols w ao l cap b o) :
    Calls Try.prog 29 #[.slice ao l.length cap, .int .i64 h, .int .i64 e, .int .i64 d] w fun en w' => en = .returned (.int .i64 (atH l h e d)) ∧ Keeps w w' := by
  have hcap := Sl.cap H
  have hle := Sl.le H
  have HH := Lib.hid H
  clear H
  go_enter Try.func29, Try.ntmps29
  go_wp2_with fail
  go_loopw [9, 10] (fun vb vi wr => ∃ k : Nat, k ≤ l.length ∧ vi = .int .i64 k ∧ ((vb = .int .i64 (-1) ∧ Hid (curH d (ofPair (l.take k) h e) = none)) ∨ (∃ (j : Nat) (hj : j < l.length), j < k ∧ vb = .int .i64 j ∧ Hid (curH d (ofPair (l.take k) h e) = some l[j]))) ∧ Hid (Keeps w wr)) (fun _ vi _ => l.length - (intOf vi).toNat)
  case atStart => exact ⟨0, Nat.zero_le _, rfl, .inl ⟨rfl, Lib.hid rfl⟩, Lib.hid (Keeps.refl w)⟩
  case round =>
    obtain ⟨k, hk, rfl, hor, HW⟩ := hrel
    by_cases hlt : k < l.length
    · have HL := HH.out.keeps HW.out
      have hix := Sl.at HL Try.underlying23 Try.sizeOf46 k hlt
      have c0 := HL.cell Hol.len k hlt 0 _ rfl
      have c1 := HL.cell Hol.len k hlt 1 _ rfl
      have c2 := HL.cell Hol.len k hlt 2 _ rfl
      simp only [Nat.add_zero] at c0
      rcases hor with ⟨rfl, HC⟩ | ⟨j, hj, hjk, rfl, HC⟩
      · clear HL
        cases p1 : (l[k].holder == h) with
        | false =>
          have HH1 := cur_take_no (h := h) (e := e) (d := d) hlt (by unfold pairB; rw [p1]; rfl)
          have HC2 := Lib.hid (HH1.trans HC.out)
          clear HH1
          go_wp2_with fail
          go_quiet (fail)
          go_wp2_with fail
          go_roundw
          case rel => exact ⟨k + 1, by omega, by go_num, (Or.inl ⟨rfl, HC2⟩), Lib.hid (HW.out.drewN _)⟩
          case measure => simp [intOf]; omega
        | true =>
          cases p2 : (l[k].entity == e) with
          | false =>
            have HH1 := cur_take_no (h := h) (e := e) (d := d) hlt (by unfold pairB; rw [p1, p2]; rfl)
            have HC2 := Lib.hid (HH1.trans HC.out)
            clear HH1
            go_wp2_with fail
            go_quiet (fail)
            go_wp2_with fail
            go_roundw
            case rel => exact ⟨k + 1, by omega, by go_num, (Or.inl ⟨rfl, HC2⟩), Lib.hid (HW.out.drewN _)⟩
            case measure => simp [intOf]; omega
          | true =>
            by_cases hd : l[k].date ≤ d
            · have HH1 := cur_take_yes (h := h) (e := e) (d := d) hlt (by unfold pairB; rw [p1, p2]; rfl) hd (fun m hm => by rw [HC.out] at hm; cases hm)
              have e3 : decide (l[k].date ≤ d) = true := decide_eq_true hd
              clear hd
              have HC2 := Lib.hid HH1
              clear HH1
              go_wp2_with fail
              go_quiet (fail)
              go_wp2_with fail
              go_roundw
              case rel => exact ⟨k + 1, by omega, by go_num, .inr ⟨k, hlt, by omega, rfl, HC2⟩, Lib.hid (HW.out.drewN _)⟩
              case measure => simp [intOf]; omega
            · have HH1 := cur_take_late (h := h) (e := e) (d := d) hlt hd
              have e3 : decide (l[k].date ≤ d) = false := decide_eq_false hd
              clear hd
              have HC2 := Lib.hid (HH1.trans HC.out)
              clear HH1
              go_wp2_with fail
              go_quiet (fail)
              go_wp2_with fail
              go_roundw
              case rel => exact ⟨k + 1, by omega, by go_num, (Or.inl ⟨rfl, HC2⟩), Lib.hid (HW.out.drewN _)⟩
              case measure => simp [intOf]; omega
      · have hiy := Sl.at HL Try.underlying23 Try.sizeOf46 j hj
        have d2 := HL.cell Hol.len j hj 2 _ rfl
        have hj0 : decide ((j : Int) < 0) = false := decide_eq_false (by omega)
        clear HL
        cases p1 : (l[k].holder == h) with
        | false =>
          have HH1 := cur_take_no (h := h) (e := e) (d := d) hlt (by unfold pairB; rw [p1]; rfl)
          have HC2 := Lib.hid (HH1.trans HC.out)
          clear HH1
          go_wp2_with fail
          go_quiet (fail)
          go_wp2_with fail
          go_roundw
          case rel => exact ⟨k + 1, by omega, by go_num, (Or.inr ⟨j, hj, Nat.lt_succ_of_lt hjk, rfl, HC2⟩), Lib.hid (HW.out.drewN _)⟩
          case measure => simp [intOf]; omega
        | true =>
          cases p2 : (l[k].entity == e) with
          | false =>
            have HH1 := cur_take_no (h := h) (e := e) (d := d) hlt (by unfold pairB; rw [p1, p2]; rfl)
            have HC2 := Lib.hid (HH1.trans HC.out)
            clear HH1
            go_wp2_with fail
            go_quiet (fail)
            go_wp2_with fail
            go_roundw
            case rel => exact ⟨k + 1, by omega, by go_num, (Or.inr ⟨j, hj, Nat.lt_succ_of_lt hjk, rfl, HC2⟩), Lib.hid (HW.out.drewN _)⟩
            case measure => simp [intOf]; omega
          | true =>
            by_cases hd : l[k].date ≤ d
            · have e3 : decide (l[k].date ≤ d) = true := decide_eq_true hd
              by_cases hm : l[j].date < l[k].date
              · have HH1 := cur_take_yes (h := h) (e := e) (d := d) hlt (by unfold pairB; rw [p1, p2]; rfl) hd (fun m hm' => by rw [HC.out] at hm'; cases hm'; exact hm)
                have e4 : decide (l[j].date < l[k].date) = true := decide_eq_true hm
                clear hd hm
                have HC2 := Lib.hid HH1
                clear HH1
                go_wp2_with fail
                go_quiet (fail)
                go_wp2_with fail
                go_roundw
                case rel => exact ⟨k + 1, by omega, by go_num, .inr ⟨k, hlt, by omega, rfl, HC2⟩, Lib.hid (HW.out.drewN _)⟩
                case measure => simp [intOf]; omega
              · have HH1 := cur_take_old (h := h) (e := e) (d := d) hlt HC.out hm
                have e4 : decide (l[j].date < l[k].date) = false := decide_eq_false hm
                clear hd hm
                have HC2 := Lib.hid (HH1.trans HC.out)
                clear HH1
                go_wp2_with fail
                go_quiet (fail)
                go_wp2_with fail
                go_roundw
                case rel => exact ⟨k + 1, by omega, by go_num, (Or.inr ⟨j, hj, Nat.lt_succ_of_lt hjk, rfl, HC2⟩), Lib.hid (HW.out.drewN _)⟩
                case measure => simp [intOf]; omega
            · have HH1 := cur_take_late (h := h) (e := e) (d := d) hlt hd
              have e3 : decide (l[k].date ≤ d) = false := decide_eq_false hd
              clear hd
              have HC2 := Lib.hid (HH1.trans HC.out)
              clear HH1
              go_wp2_with fail
              go_quiet (fail)
              go_wp2_with fail
              go_roundw
              case rel => exact ⟨k + 1, by omega, by go_num, (Or.inr ⟨j, hj, Nat.lt_succ_of_lt hjk, rfl, HC2⟩), Lib.hid (HW.out.drewN _)⟩
              case measure => simp [intOf]; omega
    · obtain rfl : k = l.length := by omega
      rcases hor with ⟨rfl, HC⟩ | ⟨j, hj, hjk, rfl, HC⟩
      · have HQ : Hid (atH l h e d = 0) := Lib.hid (by have := HC.out; rw [List.take_length] at this; unfold atH; rw [this]; rfl)
        go_wp2_with fail
        go_ret
        rw [HQ.out]
        exact ⟨rfl, HW.out⟩
      · have HL := HH.out.keeps HW.out
        have hiy := Sl.at HL Try.underlying23 Try.sizeOf46 j hj
        have d3 := HL.cell Hol.len j hj 3 _ rfl
        have hj0 : decide ((j : Int) < 0) = false := decide_eq_false (by omega)
        have HQ : Hid (atH l h e d = l[j].share) := Lib.hid (by have := HC.out; rw [List.take_length] at this; unfold atH; rw [this]; rfl)
        clear HL
        go_wp2_with fail
        go_ret
        rw [HQ.out]
        exact ⟨rfl, HW.out⟩
end Go.Proofs.Ytkpdimbblcmnaaa
