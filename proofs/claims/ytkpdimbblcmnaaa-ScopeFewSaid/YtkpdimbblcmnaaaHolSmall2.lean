/- The reference's Total; the program's proper: the walks. -/
import Derived.Test.YtkpdimbblcmnaaaHolSmall
namespace Go.Proofs.Ytkpdimbblcmnaaa
open Go.RowKit
set_option linter.unusedSimpArgs false
set_option linter.unusedVariables false

set_option maxRecDepth 100000 in
set_option maxHeartbeats 2000000 in
theorem rtotal_any (ao : Option Addr) (l : List Hol) (cap b o : Nat) (e d : Int) (w : World) (H : Hols w ao l cap b o) (hl : l.length ≤ 1000) (hb : ShB l) :
    Calls Try.prog 55 #[.slice ao l.length cap, .int .i64 e, .int .i64 d] w fun en w' => en = .returned (.int .i64 (totH l e d)) ∧ Keeps w w' := by
  have hcap := Sl.cap H
  have hle := Sl.le H
  have HH := Lib.hid H
  have HB := Lib.hid hb
  clear H hb
  go_enter Try.func55, Try.ntmps55
  go_wp2_with fail
  go_loopw [7, 8] (fun vs vi wr => ∃ (k : Nat) (S : Int), k ≤ l.length ∧ vs = .int .i64 S ∧ vi = .int .i64 k ∧ -1000000000000 ≤ S ∧ S ≤ 1000000000000 ∧ Hid (S = sumAt l e d (firstsH (l.take k)) ∧ Keeps w wr)) (fun _ vi _ => l.length - (intOf vi).toNat)
  case atStart => exact ⟨0, 0, Nat.zero_le _, rfl, rfl, by omega, by omega, Lib.hid ⟨rfl, Keeps.refl w⟩⟩
  case round =>
    obtain ⟨k, S, hk, rfl, rfl, hS1, hS2, HW⟩ := hrel
    by_cases hlt : k < l.length
    · have HL := HH.out.keeps HW.out.2
      have hix := Sl.at HL Try.underlying23 Try.sizeOf46 k hlt
      have hsn := firstsH_snoc (l.take k) l[k]
      rw [← take_snoc _ _ hlt] at hsn
      obtain ⟨q, hq⟩ : ∃ q, (firstsH (l.take k)).contains l[k].holder = q := ⟨_, rfl⟩
      have HF : Hid (∀ W, Hols W ao l cap b o → Calls Try.prog 62 #[.slice ao l.length cap, .int .i64 (k : Int)] W fun e w' => e = .returned (.bool (!q)) ∧ Keeps W w') := Lib.hid (fun W h => by have := rfirst_any ao l cap b o k W h hlt; rw [hq] at this; exact this)
      have c0 := HL.cell Hol.len k hlt 0 _ rfl
      simp only [Nat.add_zero] at c0
      have hbd := sumAt_bd HB.out e d (firstsH (l.take (k + 1)))
      have hfl := firstsH_len (l.take (k + 1))
      rw [List.length_take] at hfl
      rw [hq] at hsn
      clear HL hq
      cases q with
      | true =>
        have HSN : Hid (firstsH (l.take (k + 1)) = firstsH (l.take k)) := Lib.hid (by rw [hsn]; rfl)
        clear hsn hbd hfl
        go_wp2_with (go_at_call 62; refine (HF.out _ (HH.out.keeps HW.out.2)).mono ?_; rintro en w1 ⟨rfl, hk1⟩; have HK1 := Lib.hid (HW.out.2.trans hk1); clear hk1)
        go_roundw
        case rel => exact ⟨k + 1, S, by omega, rfl, by go_num, by omega, by omega, Lib.hid ⟨by rw [HSN.out]; exact HW.out.1, HK1.out⟩⟩
        case measure => simp [intOf]; omega
      | false =>
        have hsn2 : firstsH (l.take (k + 1)) = firstsH (l.take k) ++ [l[k].holder] := by rw [hsn]; rfl
        have hadd : sumAt l e d (firstsH (l.take (k + 1))) = S + atH l l[k].holder e d := by rw [hsn2, sumAt_snoc, HW.out.1]
        rw [hadd] at hbd
        have hS3 : -1000000000000 ≤ S + atH l l[k].holder e d := by omega
        have hS4 : S + atH l l[k].holder e d ≤ 1000000000000 := by omega
        have hab := atH_bd HB.out l[k].holder e d
        obtain ⟨ha1, ha2⟩ := hab
        have HADD := Lib.hid hadd
        clear hsn hsn2 hbd hfl hadd
        go_wp2_with (first | (go_at_call 29; refine (rhat_any ao l cap b o l[k].holder e d _ (HH.out.keeps HK1.out)).mono ?_; rintro en w2 ⟨rfl, hk2⟩; have HK2 := Lib.hid (HK1.out.trans hk2); clear hk2) | (go_at_call 62; refine (HF.out _ (HH.out.keeps HW.out.2)).mono ?_; rintro en w1 ⟨rfl, hk1⟩; have HK1 := Lib.hid (HW.out.2.trans hk1); have c1 := hk1.cell c0; clear hk1 c0))
        go_roundw
        case rel => exact ⟨k + 1, _, by omega, rfl, by go_num, by omega, by omega, Lib.hid ⟨HADD.out.symm, HK2.out⟩⟩
        case measure => simp [intOf]; omega
    · obtain rfl : k = l.length := by omega
      have HQ : Hid (totH l e d = S) := Lib.hid (by have := HW.out.1; rw [List.take_length] at this; exact this.symm)
      go_wp2_with fail
      go_ret
      rw [HQ.out]
      exact ⟨rfl, HW.out.2⟩

theorem inside_any (k n : Int) (B : Nat) (w : World) (hc : w.cell? ⟨B, 0, none⟩ = some (.int .i64 n)) :
    Calls Try.prog 59 #[.int .i64 k, .pointer (some ⟨B, 0, none⟩)] w fun en w' => en = .returned (.bool (decide (0 ≤ k) && decide (k < n))) ∧ w = w' := by
  by_cases h : 0 ≤ k
  · have hd : decide (0 ≤ k) = true := decide_eq_true h
    rw [hd, Bool.true_and]
    go_enter Try.func59, Try.ntmps59
    go_wp2
    go_ret
    exact ⟨rfl, rfl⟩
  · have hd : decide (0 ≤ k) = false := decide_eq_false h
    rw [hd, Bool.false_and]
    go_enter Try.func59, Try.ntmps59
    go_wp2
    go_ret
    exact ⟨rfl, rfl⟩
set_option maxRecDepth 100000 in
set_option maxHeartbeats 4000000 in
theorem properH_any (n : Int) (x : Hol) (w : World) : Calls Try.prog 51 #[.int .i64 n, .agg #[.int .i64 x.holder, .int .i64 x.entity, .int .i64 x.date, .int .i64 x.share]] w fun e w' => e = .returned (.bool (properB n x)) ∧ Keeps w w' := by
  obtain ⟨dv, hdv⟩ : ∃ dv, dateB x.date = dv := ⟨_, rfl⟩
  have HD : Hid (∀ W, Calls Try.prog 43 #[.int .i64 x.date] W fun e w' => e = .returned (.bool dv) ∧ W = w') := Lib.hid (fun W => by have := hdate_any x.date W; rw [hdv] at this; exact this)
  obtain ⟨p, hp⟩ : ∃ p, (decide (0 ≤ x.holder) && decide (x.holder < n)) = p := ⟨_, rfl⟩
  have HO : Hid (∀ W, W.cell? ⟨w.heap.size, 0, none⟩ = some (.int .i64 n) → Calls Try.prog 59 #[.int .i64 x.holder, .pointer (some ⟨w.heap.size, 0, none⟩)] W fun en w' => en = .returned (.bool p) ∧ W = w') := Lib.hid (fun W h => by have := inside_any x.holder n w.heap.size W h; rw [hp] at this; exact this)
  obtain ⟨q, hq⟩ : ∃ q, (decide (0 ≤ x.entity) && decide (x.entity < n)) = q := ⟨_, rfl⟩
  have HE : Hid (∀ W, W.cell? ⟨w.heap.size, 0, none⟩ = some (.int .i64 n) → Calls Try.prog 59 #[.int .i64 x.entity, .pointer (some ⟨w.heap.size, 0, none⟩)] W fun en w' => en = .returned (.bool q) ∧ W = w') := Lib.hid (fun W h => by have := inside_any x.entity n w.heap.size W h; rw [hq] at this; exact this)
  have hfin : properB n x = (p && q && (x.holder != x.entity) && dv && decide (0 ≤ x.share) && decide (x.share ≤ 10000)) := by
    unfold properB
    rw [hp, hdv, ← hq, ← Bool.and_assoc]
  clear hp hq hdv
  cases p with
  | false =>
    have HQ : Hid (properB n x = false) := Lib.hid (by rw [hfin]; simp only [Bool.false_and])
    clear hfin
    go_enter Try.func51, Try.ntmps51
    go_wp2_with (first | (go_at_call 43; refine (HD.out _).mono ?_; rintro e w1 ⟨rfl, rfl⟩) | (go_at_call 59; (with_reducible refine (HE.out _ (by go_simp)).mono ?_); rintro e w1 ⟨rfl, rfl⟩) | (go_at_call 59; (with_reducible refine (HO.out _ (by go_simp)).mono ?_); rintro e w1 ⟨rfl, rfl⟩))
    go_ret
    rw [HQ.out]
    exact ⟨rfl, ((Keeps.refl w).alloc _).alloc _⟩
  | true =>
    cases q with
    | false =>
      have HQ : Hid (properB n x = false) := Lib.hid (by rw [hfin]; simp only [Bool.false_and, Bool.and_false])
      clear hfin
      go_enter Try.func51, Try.ntmps51
      go_wp2_with (first | (go_at_call 43; refine (HD.out _).mono ?_; rintro e w1 ⟨rfl, rfl⟩) | (go_at_call 59; (with_reducible refine (HE.out _ (by go_simp)).mono ?_); rintro e w1 ⟨rfl, rfl⟩) | (go_at_call 59; (with_reducible refine (HO.out _ (by go_simp)).mono ?_); rintro e w1 ⟨rfl, rfl⟩))
      go_ret
      rw [HQ.out]
      exact ⟨rfl, ((Keeps.refl w).alloc _).alloc _⟩
    | true =>
      cases h5 : (x.holder != x.entity) with
      | false =>
        have HQ : Hid (properB n x = false) := Lib.hid (by rw [hfin, h5]; simp only [Bool.false_and, Bool.and_false])
        clear hfin
        go_enter Try.func51, Try.ntmps51
        go_wp2_with (first | (go_at_call 43; refine (HD.out _).mono ?_; rintro e w1 ⟨rfl, rfl⟩) | (go_at_call 59; (with_reducible refine (HE.out _ (by go_simp)).mono ?_); rintro e w1 ⟨rfl, rfl⟩) | (go_at_call 59; (with_reducible refine (HO.out _ (by go_simp)).mono ?_); rintro e w1 ⟨rfl, rfl⟩))
        go_ret
        rw [HQ.out]
        exact ⟨rfl, ((Keeps.refl w).alloc _).alloc _⟩
      | true =>
        cases dv with
        | false =>
          have HQ : Hid (properB n x = false) := Lib.hid (by rw [hfin]; simp only [Bool.false_and, Bool.and_false])
          clear hfin
          go_enter Try.func51, Try.ntmps51
          go_wp2_with (first | (go_at_call 43; refine (HD.out _).mono ?_; rintro e w1 ⟨rfl, rfl⟩) | (go_at_call 59; (with_reducible refine (HE.out _ (by go_simp)).mono ?_); rintro e w1 ⟨rfl, rfl⟩) | (go_at_call 59; (with_reducible refine (HO.out _ (by go_simp)).mono ?_); rintro e w1 ⟨rfl, rfl⟩))
          go_ret
          rw [HQ.out]
          exact ⟨rfl, ((Keeps.refl w).alloc _).alloc _⟩
        | true =>
          by_cases h6 : 0 ≤ x.share
          · have HQ : Hid (properB n x = decide (x.share ≤ 10000)) := Lib.hid (by rw [hfin, h5, decide_eq_true h6]; simp only [Bool.true_and])
            clear hfin
            go_enter Try.func51, Try.ntmps51
            go_wp2_with (first | (go_at_call 43; refine (HD.out _).mono ?_; rintro e w1 ⟨rfl, rfl⟩) | (go_at_call 59; (with_reducible refine (HE.out _ (by go_simp)).mono ?_); rintro e w1 ⟨rfl, rfl⟩) | (go_at_call 59; (with_reducible refine (HO.out _ (by go_simp)).mono ?_); rintro e w1 ⟨rfl, rfl⟩))
            go_ret
            rw [HQ.out]
            exact ⟨rfl, ((Keeps.refl w).alloc _).alloc _⟩
          · have HQ : Hid (properB n x = false) := Lib.hid (by rw [hfin, decide_eq_false h6]; simp only [Bool.false_and, Bool.and_false])
            clear hfin
            go_enter Try.func51, Try.ntmps51
            go_wp2_with (first | (go_at_call 43; refine (HD.out _).mono ?_; rintro e w1 ⟨rfl, rfl⟩) | (go_at_call 59; (with_reducible refine (HE.out _ (by go_simp)).mono ?_); rintro e w1 ⟨rfl, rfl⟩) | (go_at_call 59; (with_reducible refine (HO.out _ (by go_simp)).mono ?_); rintro e w1 ⟨rfl, rfl⟩))
            go_ret
            rw [HQ.out]
            exact ⟨rfl, ((Keeps.refl w).alloc _).alloc _⟩
end Go.Proofs.Ytkpdimbblcmnaaa
