/- Walks and plain facts that the claim rests on (DateO, RDateO, CalW, CalX). No condition. -/
import Derived.Test.YtoaidbhiciaeaaaGreatOr02
section
namespace Go.Proofs.YtoaidbhiciaeaaaGreat
open Go.RowKit
set_option linter.unusedSimpArgs false
set_option linter.unusedVariables false
theorem results_tmp4 {fn : Func} {t u v x : Tmp} (h : fn.results = #[.tmp t, .tmp u, .tmp v, .tmp x]) (tmps : Array Value) (P : Program) (w : World) :
    (results fn tmps).run P w = .ok (.tuple #[tmps.getD t undef, tmps.getD u undef, tmps.getD v undef, tmps.getD x undef]) w := by
  simp [results, h, go_sem]
theorem begP_any (y : Int) (h1 : 1800 ≤ y) (h2 : y ≤ 2300) (w : World) : Calls Tryz.prog 113 #[.int .i64 y] w fun e w' => e = .returned (.int .i64 (begF y)) ∧ w = w' := by
  obtain ⟨a, ha⟩ : ∃ a, (y - 1).tdiv 4 = a := ⟨_, rfl⟩
  obtain ⟨b, hb⟩ : ∃ b, (y - 1).tdiv 100 = b := ⟨_, rfl⟩
  obtain ⟨c, hc⟩ : ∃ c, (y - 1).tdiv 400 = c := ⟨_, rfl⟩
  have ha2 := ha
  have hb2 := hb
  have hc2 := hc
  rw [Int.tdiv_eq_ediv_of_nonneg (by omega)] at ha2 hb2 hc2
  have a1 : 0 ≤ a ∧ a ≤ 1000 := by omega
  have b1 : 0 ≤ b ∧ b ≤ 1000 := by omega
  have c1 : 0 ≤ c ∧ c ≤ 1000 := by omega
  have HB : Hid (begF y = 365 * (y - 1) + a - b + c - 719162) := Lib.hid (by unfold begF; rw [ha, hb, hc])
  clear ha2 hb2 hc2
  go_enter Tryz.func113, Tryz.ntmps113
  go_wp2_with fail
  go_ret
  exact ⟨congrArg (fun x => Ending.returned (Value.int .i64 x)) (by rw [HB.out]), rfl⟩
theorem beg_bd {y : Int} (h1 : 1900 ≤ y) (h2 : y ≤ 2199) : -25567 ≤ begF y ∧ begF y ≤ 84005 := by
  have h := month_ok h1 h2 (show 0 < 12 by omega)
  have e : mofF y 0 = 0 := rfl
  have a := h.min
  have b := h.max
  rw [e] at a b
  omega
set_option maxRecDepth 100000 in
set_option maxHeartbeats 2000000 in
theorem ofP_any (y m : Int) (w : World) : Calls Tryz.prog 115 #[.int .i64 y, .int .i64 m, .int .i64 1] w fun e w' => e = .returned (.tuple #[.int .i64 (ofF y m 1).1, .int .i64 (ofF y m 1).2]) ∧ Keeps w w' := by
  by_cases hv : 1900 ≤ y ∧ y ≤ 2199 ∧ 1 ≤ m ∧ m ≤ 12
  · obtain ⟨h1, h2, h3, h4⟩ := hv
    have HO := Lib.hid (ofF_one h1 h2 h3 h4)
    obtain ⟨j, rfl⟩ : ∃ j : Nat, m = (j : Int) + 1 := ⟨(m - 1).toNat, by omega⟩
    have hj : j < 12 := by omega
    rw [show ((j : Int) + 1 - 1).toNat = j from by omega] at HO
    have hM := month_ok h1 h2 hj
    obtain ⟨D, hD⟩ : ∃ D, dmF y ((j : Int) + 1) = D := ⟨_, rfl⟩
    have hD28 : 28 ≤ D := by rw [← hD]; exact hM.d28
    have e1 : decide (D < 1) = false := decide_eq_false (by omega)
    have HD : Hid (∀ W, Calls Tryz.prog 73 #[.int .i64 y, .int .i64 ((j : Int) + 1)] W fun e w' => e = .returned (.int .i64 D) ∧ Keeps W w') := Lib.hid (fun W => by rw [← hD]; exact daysP_any _ _ W)
    obtain ⟨B, hB⟩ : ∃ B, begF y = B := ⟨_, rfl⟩
    have hbd := beg_bd h1 h2
    rw [hB] at hbd HO
    have HBG : Hid (∀ W, Calls Tryz.prog 113 #[.int .i64 y] W fun e w' => e = .returned (.int .i64 B) ∧ W = w') := Lib.hid (fun W => by rw [← hB]; exact begP_any y (by omega) (by omega) W)
    have HMK : Hid (∀ i, i < 12 → MonthOk y i) := Lib.hid (fun i hi => month_ok h1 h2 hi)
    clear hM hD hB h1 h2
    go_enter Tryz.func115, Tryz.ntmps115
    go_wp2_with (first | (go_at_call 73; refine (HD.out _).mono ?_; rintro e w1 ⟨rfl, hk1⟩) | (go_at_call 113; refine (HBG.out _).mono ?_; rintro e w2 ⟨rfl, rfl⟩))
    go_loopw [8, 9] (fun vn vk wr => ∃ k : Nat, k ≤ j ∧ vk = .int .i64 ((k : Int) + 1) ∧ vn = .int .i64 (B + mofF y k) ∧ Hid (Keeps w wr)) (fun _ vk _ => j + 1 - (intOf vk).toNat)
    case atStart => exact ⟨0, Nat.zero_le _, rfl, congrArg (Value.int .i64) (by show _ = B + 0; omega), Lib.hid hk1⟩
    case round =>
      obtain ⟨k, hk, rfl, rfl, HW⟩ := hrel
      by_cases hlt : k < j
      · have hM := HMK.out k (by omega)
        obtain ⟨M, hMq⟩ : ∃ M, mofF y k = M := ⟨_, rfl⟩
        obtain ⟨E, hE⟩ : ∃ E, dmF y ((k : Int) + 1) = E := ⟨_, rfl⟩
        have m0 := hM.m0
        have m1 := hM.m1
        have d1 := hM.d28
        have d2 := hM.d31
        rw [hMq] at m0 m1
        rw [show (((k + 1 : Nat) : Int)) = (k : Int) + 1 from by omega, hE] at d1 d2
        have HDE : Hid (∀ W, Calls Tryz.prog 73 #[.int .i64 y, .int .i64 ((k : Int) + 1)] W fun e w' => e = .returned (.int .i64 E) ∧ Keeps W w') := Lib.hid (fun W => by rw [← hE]; exact daysP_any _ _ W)
        have HME : Hid (mofF y (k + 1) = M + E) := Lib.hid (by rw [← hMq, ← hE]; rfl)
        have e2 : decide ((k : Int) + 1 < (j : Int) + 1) = true := decide_eq_true (by omega)
        have e3 : decide (k < j) = true := decide_eq_true hlt
        rw [hMq]
        clear hM hMq hE
        go_wp2_with (go_at_call 73; refine (HDE.out _).mono ?_; rintro e w3 ⟨rfl, hk3⟩)
        go_roundw
        case rel => exact ⟨k + 1, by omega, congrArg (Value.int .i64) (by omega), congrArg (Value.int .i64) (by rw [HME.out]; omega), Lib.hid (HW.out.trans hk3)⟩
        case measure => simp [intOf]; omega
      · obtain rfl : k = j := by omega
        have e2 : decide ((k : Int) + 1 < (k : Int) + 1) = false := decide_eq_false (by omega)
        go_wp2_with fail
        go_ret2
        exact ⟨by rw [HO.out]; rfl, HW.out⟩
  · have h0 : dmF y m = 0 := dmF_zero (by omega)
    have HO := Lib.hid (ofF_bad (y := y) (m := m) (by omega))
    have HD : Hid (∀ W, Calls Tryz.prog 73 #[.int .i64 y, .int .i64 m] W fun e w' => e = .returned (.int .i64 0) ∧ Keeps W w') := Lib.hid (fun W => by rw [← h0]; exact daysP_any _ _ W)
    clear h0 hv
    go_enter Tryz.func115, Tryz.ntmps115
    go_wp2_with (go_at_call 73; refine (HD.out _).mono ?_; rintro e w1 ⟨rfl, hk1⟩)
    go_ret2
    exact ⟨by rw [HO.out]; rfl, hk1⟩
set_option maxRecDepth 100000 in
set_option maxHeartbeats 2000000 in
theorem civP_any (y : Int) (j : Nat) (h1 : 1900 ≤ y) (h2 : y ≤ 2199) (hj : j < 12) (w : World) : Calls Tryz.prog 72 #[.int .i64 (begF y + mofF y j)] w fun e w' => e = .returned (.tuple #[.int .i64 y, .int .i64 ((j : Int) + 1), .int .i64 1, .int .i64 0]) ∧ Keeps w w' := by
  have hM := month_ok h1 h2 hj
  obtain ⟨d, hd⟩ : ∃ d, begF y + mofF y j = d := ⟨_, rfl⟩
  have hmin := hM.min
  have hmax := hM.max
  have hfr := hM.from_
  have hlo := hM.low
  have hlt := hM.lt
  rw [hd] at hmin hmax hfr hlo hlt
  obtain ⟨t, ht⟩ : ∃ t, d.tdiv 366 = t := ⟨_, rfl⟩
  rw [ht] at hfr hlo
  have HV : Hid (∀ W, Calls Tryz.prog 109 #[.int .i64 d] W fun e w' => e = .returned (.bool true) ∧ W = w') := Lib.hid (fun W => by
    have := hdate_any d W
    rw [show dateB d = true from by unfold dateB; simp; omega] at this
    exact this)
  have HBG : Hid (∀ c W, 1800 ≤ c → c ≤ 2300 → Calls Tryz.prog 113 #[.int .i64 c] W fun e w' => e = .returned (.int .i64 (begF c)) ∧ W = w') := Lib.hid (fun c W a b => begP_any c a b W)
  have HDY : Hid (∀ m W, Calls Tryz.prog 73 #[.int .i64 y, .int .i64 m] W fun e w' => e = .returned (.int .i64 (dmF y m)) ∧ Keeps W w') := Lib.hid (fun m W => daysP_any y m W)
  have HDJ : Hid (d - begF y = mofF y j) := Lib.hid (by omega)
  have hmj1 := hM.m0
  have hmj2 := hM.m1
  have hbb := beg_bd h1 h2
  clear hM hd
  rw [show begF y + mofF y j = d from by have := HDJ.out; omega]
  go_enter Tryz.func72, Tryz.ntmps72
  go_wp2_with (go_at_call 109; refine (HV.out _).mono ?_; rintro e w1 ⟨rfl, rfl⟩)
  go_loopw [2] (fun vy wr => ∃ c : Int, 1899 ≤ c ∧ c ≤ y ∧ vy = .int .i64 c ∧ wr = w) (fun vy _ => (y - intOf vy).toNat)
  case atStart => exact ⟨1970 + t - 2, by omega, by omega, congrArg (Value.int .i64) (by omega), rfl⟩
  case round =>
    obtain ⟨c, hc1, hc2, rfl, rfl⟩ := hrel
    by_cases hlt2 : c < y
    · by_cases hc0 : c < 1900
      · have e1 : decide (c < 1900) = true := decide_eq_true hc0
        go_wp2_with fail
        go_roundw
        case rel => exact ⟨c + 1, by omega, by omega, congrArg (Value.int .i64) (by omega), by first | rfl | trivial⟩
        case measure => simp [intOf]; omega
      · have e1 : decide (c < 1900) = false := decide_eq_false hc0
        obtain ⟨b, hb⟩ : ∃ b, begF (c + 1) = b := ⟨_, rfl⟩
        have hle := beg_le (a := c + 1) (b := y) (by omega) (by omega) (by omega)
        have e2 : decide (b ≤ d) = true := decide_eq_true (by rw [← hb]; have := HDJ.out; omega)
        have HB2 : Hid (∀ W, Calls Tryz.prog 113 #[.int .i64 (c + 1)] W fun e w' => e = .returned (.int .i64 b) ∧ W = w') := Lib.hid (fun W => by rw [← hb]; exact HBG.out _ W (by omega) (by omega))
        clear hb hle
        go_wp2_with (go_at_call 113; refine (HB2.out _).mono ?_; rintro e w2 ⟨rfl, rfl⟩)
        go_roundw
        case rel => exact ⟨c + 1, by omega, by omega, congrArg (Value.int .i64) (by omega), by first | rfl | trivial⟩
        case measure => simp [intOf]; omega
    · obtain rfl : c = y := by omega
      have e1 : decide (c < 1900) = false := decide_eq_false (by omega)
      obtain ⟨b, hb⟩ : ∃ b, begF (c + 1) = b := ⟨_, rfl⟩
      rw [hb] at hlt
      have e2 : decide (b ≤ d) = false := decide_eq_false (by omega)
      have HB2 : Hid (∀ W, Calls Tryz.prog 113 #[.int .i64 (c + 1)] W fun e w' => e = .returned (.int .i64 b) ∧ W = w') := Lib.hid (fun W => by rw [← hb]; exact HBG.out _ W (by omega) (by omega))
      obtain ⟨q, hq⟩ : ∃ q, begF c = q := ⟨_, rfl⟩
      have HB3 : Hid (∀ W, Calls Tryz.prog 113 #[.int .i64 c] W fun e w' => e = .returned (.int .i64 q) ∧ W = w') := Lib.hid (fun W => by rw [← hq]; exact HBG.out _ W (by omega) (by omega))
      rw [hq] at HDJ hbb
      have HMK : Hid (∀ i, i < 12 → MonthOk c i) := Lib.hid (fun i hi => month_ok h1 h2 hi)
      have HMM : Hid (∀ i, i < j → mofF c i + dmF c ((i : Int) + 1) ≤ mofF c j) := Lib.hid (fun i hi => mof_mono h1 h2 hi hj)
      obtain ⟨X, hX⟩ : ∃ X, d - q = X := ⟨_, rfl⟩
      have HXJ : Hid (X = mofF c j) := Lib.hid (by rw [← hX]; exact HDJ.out)
      have hX0 : 0 ≤ X ∧ X ≤ 366 := by rw [HXJ.out]; exact ⟨hmj1, hmj2⟩
      clear hb hq
      go_wp2_with (first | (go_at_call 113; first | (guard_hyp hz : _; refine (HB3.out _).mono ?_; rintro e w3 ⟨rfl, rfl⟩) | (refine (HB2.out _).mono ?_; rintro e w2 ⟨rfl, rfl⟩; have hz : True := trivial)))
      obtain ⟨wo, rfl⟩ : ∃ wo : World, wo = wr := ⟨_, rfl⟩
      go_loopw [4, 3] (fun vd vm wr => ∃ i : Nat, i ≤ j ∧ vm = .int .i64 ((i : Int) + 1) ∧ vd = .int .i64 (X - mofF c i) ∧ Hid (Keeps wo wr)) (fun _ vm _ => j + 1 - (intOf vm).toNat)
      case atStart => exact ⟨0, Nat.zero_le _, rfl, congrArg (Value.int .i64) (by show _ = X - 0; omega), Lib.hid (Keeps.refl _)⟩
      case round =>
        obtain ⟨i, hi, rfl, rfl, HW⟩ := hrel
        have hM := HMK.out i (by omega)
        obtain ⟨M, hMq⟩ : ∃ M, mofF c i = M := ⟨_, rfl⟩
        obtain ⟨E, hE⟩ : ∃ E, dmF c ((i : Int) + 1) = E := ⟨_, rfl⟩
        have m0 := hM.m0
        have m1 := hM.m1
        have d1 := hM.d28
        have d2 := hM.d31
        rw [hMq] at m0 m1
        rw [show (((i + 1 : Nat) : Int)) = (i : Int) + 1 from by omega, hE] at d1 d2
        have HDE : Hid (∀ W, Calls Tryz.prog 73 #[.int .i64 c, .int .i64 ((i : Int) + 1)] W fun e w' => e = .returned (.int .i64 E) ∧ Keeps W w') := Lib.hid (fun W => by rw [← hE]; exact HDY.out _ W)
        have HME : Hid (mofF c (i + 1) = M + E) := Lib.hid (by rw [← hMq, ← hE]; rfl)
        by_cases hij : i < j
        · have hmm := HMM.out i hij
          rw [hMq, hE, ← HXJ.out] at hmm
          have e3 : decide (E ≤ X - M) = true := decide_eq_true (by omega)
          rw [hMq]
          clear hM hMq hE
          go_wp2_with (go_at_call 73; first | (guard_hyp hk4 : _; refine (HDE.out _).mono ?_; rintro e w5 ⟨rfl, hk5⟩) | (refine (HDE.out _).mono ?_; rintro e w4 ⟨rfl, hk4⟩))
          go_roundw
          case rel => exact ⟨i + 1, by omega, congrArg (Value.int .i64) (by omega), congrArg (Value.int .i64) (by rw [HME.out]; omega), Lib.hid ((HW.out.trans hk4).trans hk5)⟩
          case measure => simp [intOf]; omega
        · obtain rfl : i = j := by omega
          have hx0 := HXJ.out
          rw [hMq] at hx0
          subst hx0
          have e3 : decide (E ≤ X - X) = false := decide_eq_false (by omega)
          have e4 : decide (E ≤ 0) = false := decide_eq_false (by omega)
          rw [hMq]
          clear hM hMq hE
          go_wp2_with (go_at_call 73; refine (HDE.out _).mono ?_; rintro e w4 ⟨rfl, hk4⟩)
          refine bodyPost_ret (results_tmp4 rfl _ _ _) rfl ?_
          exact ⟨by simp, HW.out.trans hk4⟩
end Go.Proofs.YtoaidbhiciaeaaaGreat

end
section
namespace Go.Proofs.YtoaidbhiciaeaaaGreat
open Go.RowKit
set_option linter.unusedSimpArgs false
set_option linter.unusedVariables false
def fdE (n : Int) : Int × Int := if n < 26400 then (fdF n, 0) else (0, 2)
theorem ofF_month {n : Int} (h : 22800 ≤ n) : ofF (n.tdiv 12) (n.tmod 12 + 1) 1 = fdE n := by
  unfold fdE fdF
  have hn : 0 ≤ n.tmod 12 ∧ n.tmod 12 < 12 := by rw [tmod12 (by omega)]; omega
  by_cases h2 : n < 26400
  · have := month_of h h2
    rw [if_pos h2, ofF_one this.1 this.2.1 (by omega) (by omega)]
    congr 3
    omega
  · rw [if_neg h2, ofF_bad (.inr (.inl ?_))]
    rw [tdiv12 (by omega)]
    omega
def chkF (y m n p : Int) : Int := if calB y m n = true then (if p < 0 ∨ n ≤ p then 2 else 0) else 1
def firF (y m n p : Int) : Int × Int := if chkF y m n p = 0 then (fdF (12 * y + m - 1 + p), 0) else (0, chkF y m n p)
def lasF (y m n p : Int) : Int × Int := if chkF y m n p = 0 then (fdF (12 * y + m - 1 + p) + dmF ((12 * y + m - 1 + p).tdiv 12) ((12 * y + m - 1 + p).tmod 12 + 1) - 1, 0) else (0, chkF y m n p)
def yrF (y m n p : Int) : Int × Int := if chkF y m n p = 0 then (fdF (12 * y + m - 1 + (p - p.tmod 12)), 0) else (0, chkF y m n p)
theorem chk_ok {y m n p : Int} (h : chkF y m n p = 0) : 1 ≤ m ∧ m ≤ 12 ∧ 1 ≤ n ∧ n ≤ 120 ∧ 1900 ≤ y ∧ y ≤ 2199 ∧ 0 ≤ p ∧ p < n ∧ 12 * y + m - 1 + p < 26400 := by
  unfold chkF at h
  split at h
  · rename_i hc
    have := calB_true hc
    split at h <;> omega
  · omega
theorem firstP_any (y m n p : Int) (h1 : 1900 ≤ y) (h2 : y ≤ 2199) (h3 : 1 ≤ m) (h4 : m ≤ 12) (h5 : 0 ≤ p) (h6 : p ≤ 200) (w : World) :
    Calls Tryz.prog 75 #[.agg #[.int .i64 y, .int .i64 m, .int .i64 n], .int .i64 p] w fun e w' => e = .returned (.tuple #[.int .i64 (fdE (12 * y + m - 1 + p)).1, .int .i64 (fdE (12 * y + m - 1 + p)).2]) ∧ Keeps w w' := by
  have HO := Lib.hid (ofF_month (n := 12 * y + m - 1 + p) (by omega))
  obtain ⟨a, ha⟩ : ∃ a, (12 * y + m - 1 + p).tdiv 12 = a := ⟨_, rfl⟩
  obtain ⟨b, hb⟩ : ∃ b, (12 * y + m - 1 + p).tmod 12 = b := ⟨_, rfl⟩
  have hb2 : 0 ≤ b ∧ b < 12 := by rw [← hb, tmod12 (by omega)]; omega
  have ha2 : 0 ≤ a ∧ a < 3000 := by rw [← ha, tdiv12 (by omega)]; omega
  rw [ha, hb] at HO
  have HOF : Hid (∀ W, Calls Tryz.prog 115 #[.int .i64 a, .int .i64 (b + 1), .int .i64 1] W fun e w' => e = .returned (.tuple #[.int .i64 (fdE (12 * y + m - 1 + p)).1, .int .i64 (fdE (12 * y + m - 1 + p)).2]) ∧ Keeps W w') := Lib.hid (fun W => by rw [← HO.out]; exact ofP_any a (b + 1) W)
  obtain ⟨⟨r1, r2⟩, hr⟩ : ∃ r, fdE (12 * y + m - 1 + p) = r := ⟨_, rfl⟩
  rw [hr] at HOF ⊢
  clear hr HO
  go_enter Tryz.func75, Tryz.ntmps75
  go_wp2_with (go_at_call 115; refine (HOF.out _).mono ?_; rintro e w1 ⟨rfl, hk1⟩)
  go_ret2
  exact ⟨rfl, ((Keeps.refl w).alloc _).trans hk1⟩
set_option maxHeartbeats 2000000 in
theorem validC_any (y m n : Int) (w : World) : Calls Tryz.prog 63 #[.agg #[.int .i64 y, .int .i64 m, .int .i64 n]] w fun e w' => e = .returned (.bool (calB y m n)) ∧ Keeps w w' := by
  by_cases h1 : m < 1
  · have e1 : decide (m < 1) = true := decide_eq_true h1
    have HB : Hid (calB y m n = false) := Lib.hid (decide_eq_false (by omega))
    clear h1
    go_enter Tryz.func63, Tryz.ntmps63
    go_wp2_with fail
    go_ret
    exact ⟨by rw [HB.out]; rfl, (Keeps.refl w).alloc _⟩
  by_cases h2 : 12 < m
  · have e1 : decide (m < 1) = false := decide_eq_false h1
    have e2 : decide (12 < m) = true := decide_eq_true h2
    have HB : Hid (calB y m n = false) := Lib.hid (decide_eq_false (by omega))
    clear h1 h2
    go_enter Tryz.func63, Tryz.ntmps63
    go_wp2_with fail
    go_ret
    exact ⟨by rw [HB.out]; rfl, (Keeps.refl w).alloc _⟩
  by_cases h3 : n < 1
  · have e1 : decide (m < 1) = false := decide_eq_false h1
    have e2 : decide (12 < m) = false := decide_eq_false h2
    have e3 : decide (n < 1) = true := decide_eq_true h3
    have HB : Hid (calB y m n = false) := Lib.hid (decide_eq_false (by omega))
    clear h1 h2 h3
    go_enter Tryz.func63, Tryz.ntmps63
    go_wp2_with fail
    go_ret
    exact ⟨by rw [HB.out]; rfl, (Keeps.refl w).alloc _⟩
  by_cases h4 : 120 < n
  · have e1 : decide (m < 1) = false := decide_eq_false h1
    have e2 : decide (12 < m) = false := decide_eq_false h2
    have e3 : decide (n < 1) = false := decide_eq_false h3
    have e4 : decide (120 < n) = true := decide_eq_true h4
    have HB : Hid (calB y m n = false) := Lib.hid (decide_eq_false (by omega))
    clear h1 h2 h3 h4
    go_enter Tryz.func63, Tryz.ntmps63
    go_wp2_with fail
    go_ret
    exact ⟨by rw [HB.out]; rfl, (Keeps.refl w).alloc _⟩
  by_cases h5 : y < 1900
  · have e1 : decide (m < 1) = false := decide_eq_false h1
    have e2 : decide (12 < m) = false := decide_eq_false h2
    have e3 : decide (n < 1) = false := decide_eq_false h3
    have e4 : decide (120 < n) = false := decide_eq_false h4
    have e5 : decide (y < 1900) = true := decide_eq_true h5
    have HB : Hid (calB y m n = false) := Lib.hid (decide_eq_false (by omega))
    clear h1 h2 h3 h4 h5
    go_enter Tryz.func63, Tryz.ntmps63
    go_wp2_with fail
    go_ret
    exact ⟨by rw [HB.out]; rfl, (Keeps.refl w).alloc _⟩
  by_cases h6 : 2199 < y
  · have e1 : decide (m < 1) = false := decide_eq_false h1
    have e2 : decide (12 < m) = false := decide_eq_false h2
    have e3 : decide (n < 1) = false := decide_eq_false h3
    have e4 : decide (120 < n) = false := decide_eq_false h4
    have e5 : decide (y < 1900) = false := decide_eq_false h5
    have e6 : decide (2199 < y) = true := decide_eq_true h6
    have HB : Hid (calB y m n = false) := Lib.hid (decide_eq_false (by omega))
    clear h1 h2 h3 h4 h5 h6
    go_enter Tryz.func63, Tryz.ntmps63
    go_wp2_with fail
    go_ret
    exact ⟨by rw [HB.out]; rfl, (Keeps.refl w).alloc _⟩
  have e1 : decide (m < 1) = false := decide_eq_false h1
  have e2 : decide (12 < m) = false := decide_eq_false h2
  have e3 : decide (n < 1) = false := decide_eq_false h3
  have e4 : decide (120 < n) = false := decide_eq_false h4
  have e5 : decide (y < 1900) = false := decide_eq_false h5
  have e6 : decide (2199 < y) = false := decide_eq_false h6
  have HF : Hid (∀ W, Calls Tryz.prog 75 #[.agg #[.int .i64 y, .int .i64 m, .int .i64 n], .int .i64 (n - 1)] W fun e w' => e = .returned (.tuple #[.int .i64 (fdE (12 * y + m - 1 + (n - 1))).1, .int .i64 (fdE (12 * y + m - 1 + (n - 1))).2]) ∧ Keeps W w') := Lib.hid (fun W => firstP_any y m n (n - 1) (by omega) (by omega) (by omega) (by omega) (by omega) (by omega) W)
  have hcb : calB y m n = ((fdE (12 * y + m - 1 + (n - 1))).2 == 0) := by
    unfold calB fdE
    by_cases h7 : 12 * y + m - 1 + (n - 1) < 26400
    · rw [if_pos h7, decide_eq_true (by omega)]; rfl
    · rw [if_neg h7, decide_eq_false (by omega)]; rfl
  obtain ⟨⟨r1, r2⟩, hr⟩ : ∃ r, fdE (12 * y + m - 1 + (n - 1)) = r := ⟨_, rfl⟩
  rw [hr] at HF hcb
  have HB := Lib.hid hcb
  have hn1 : 1 ≤ n ∧ n ≤ 120 := by omega
  clear hr hcb h1 h2 h3 h4 h5 h6
  go_enter Tryz.func63, Tryz.ntmps63
  go_wp2_with (go_at_call 75; refine (HF.out _).mono ?_; rintro e w1 ⟨rfl, hk1⟩)
  go_ret
  exact ⟨by rw [HB.out]; rfl, ((Keeps.refl w).alloc _).trans hk1⟩
end Go.Proofs.YtoaidbhiciaeaaaGreat

end
section
namespace Go.Proofs.YtoaidbhiciaeaaaGreat
open Go.RowKit
set_option linter.unusedSimpArgs false
set_option linter.unusedVariables false
def frsR (y m p : Int) : Int × Int := if 1900 ≤ y ∧ y ≤ 2199 ∧ 1 ≤ m ∧ m ≤ 12 then fdE (12 * y + m - 1 + p) else (0, 2)
theorem chkP_any (y m n p : Int) (w : World) : Calls Tryz.prog 74 #[.agg #[.int .i64 y, .int .i64 m, .int .i64 n], .int .i64 p] w fun e w' => e = .returned (.int .i64 (chkF y m n p)) ∧ Keeps w w' := by
  have HV : Hid (∀ W, Calls Tryz.prog 63 #[.agg #[.int .i64 y, .int .i64 m, .int .i64 n]] W fun e w' => e = .returned (.bool (calB y m n)) ∧ Keeps W w') := Lib.hid (fun W => validC_any y m n W)
  cases hv : calB y m n with
  | false =>
    have HB : Hid (chkF y m n p = 1) := Lib.hid (if_neg (by rw [hv]; decide))
    rw [hv] at HV
    clear hv
    go_enter Tryz.func74, Tryz.ntmps74
    go_wp2_with (go_at_call 63; refine (HV.out _).mono ?_; rintro e w1 ⟨rfl, hk1⟩; have c0 := hk1.cell (p := ⟨w.heap.size, 0, none⟩) (v := .int .i64 y) (by go_simp); have c1 := hk1.cell (p := ⟨w.heap.size, 1, none⟩) (v := .int .i64 m) (by go_simp); have c2 := hk1.cell (p := ⟨w.heap.size, 2, none⟩) (v := .int .i64 n) (by go_simp); have cz := World.block_lt_of_cell? _ _ c0)
    go_ret
    exact ⟨by rw [HB.out]; rfl, ((Keeps.refl w).alloc _).trans hk1⟩
  | true =>
    have hC : chkF y m n p = if p < 0 ∨ n ≤ p then 2 else 0 := if_pos hv
    rw [hv] at HV
    clear hv
    by_cases h1 : p < 0
    · have HB : Hid (chkF y m n p = 2) := Lib.hid (by rw [hC, if_pos (.inl h1)])
      have e1 : decide (p < 0) = true := decide_eq_true h1
      clear hC h1
      go_enter Tryz.func74, Tryz.ntmps74
      go_wp2_with (go_at_call 63; refine (HV.out _).mono ?_; rintro e w1 ⟨rfl, hk1⟩; have c0 := hk1.cell (p := ⟨w.heap.size, 0, none⟩) (v := .int .i64 y) (by go_simp); have c1 := hk1.cell (p := ⟨w.heap.size, 1, none⟩) (v := .int .i64 m) (by go_simp); have c2 := hk1.cell (p := ⟨w.heap.size, 2, none⟩) (v := .int .i64 n) (by go_simp); have cz := World.block_lt_of_cell? _ _ c0)
      go_ret
      exact ⟨by rw [HB.out]; rfl, ((Keeps.refl w).alloc _).trans hk1⟩
    · have e1 : decide (p < 0) = false := decide_eq_false h1
      by_cases h2 : n ≤ p
      · have HB : Hid (chkF y m n p = 2) := Lib.hid (by rw [hC, if_pos (.inr h2)])
        have e2 : decide (n ≤ p) = true := decide_eq_true h2
        clear hC h1 h2
        go_enter Tryz.func74, Tryz.ntmps74
        go_wp2_with (go_at_call 63; refine (HV.out _).mono ?_; rintro e w1 ⟨rfl, hk1⟩; have c0 := hk1.cell (p := ⟨w.heap.size, 0, none⟩) (v := .int .i64 y) (by go_simp); have c1 := hk1.cell (p := ⟨w.heap.size, 1, none⟩) (v := .int .i64 m) (by go_simp); have c2 := hk1.cell (p := ⟨w.heap.size, 2, none⟩) (v := .int .i64 n) (by go_simp); have cz := World.block_lt_of_cell? _ _ c0)
        go_ret
        exact ⟨by rw [HB.out]; rfl, ((Keeps.refl w).alloc _).trans hk1⟩
      · have HB : Hid (chkF y m n p = 0) := Lib.hid (by rw [hC, if_neg (by omega)])
        have e2 : decide (n ≤ p) = false := decide_eq_false h2
        clear hC h1 h2
        go_enter Tryz.func74, Tryz.ntmps74
        go_wp2_with (go_at_call 63; refine (HV.out _).mono ?_; rintro e w1 ⟨rfl, hk1⟩; have c0 := hk1.cell (p := ⟨w.heap.size, 0, none⟩) (v := .int .i64 y) (by go_simp); have c1 := hk1.cell (p := ⟨w.heap.size, 1, none⟩) (v := .int .i64 m) (by go_simp); have c2 := hk1.cell (p := ⟨w.heap.size, 2, none⟩) (v := .int .i64 n) (by go_simp); have cz := World.block_lt_of_cell? _ _ c0)
        go_ret
        exact ⟨by rw [HB.out]; rfl, ((Keeps.refl w).alloc _).trans hk1⟩
theorem frs_ok {y m n p q : Int} (h : chkF y m n p = 0) (h1 : 0 ≤ q) (h2 : q ≤ p) : frsR y m q = (fdF (12 * y + m - 1 + q), 0) ∧ fdE (12 * y + m - 1 + q) = (fdF (12 * y + m - 1 + q), 0) := by
  have := chk_ok h
  unfold frsR fdE
  rw [if_pos (by omega), if_pos (by omega)]
  exact ⟨rfl, rfl⟩
theorem firstP_ok {y m n p : Int} (h : chkF y m n p = 0) {q : Int} (h1 : 0 ≤ q) (h2 : q ≤ p) (w : World) :
    Calls Tryz.prog 75 #[.agg #[.int .i64 y, .int .i64 m, .int .i64 n], .int .i64 q] w fun e w' => e = .returned (.tuple #[.int .i64 (fdF (12 * y + m - 1 + q)), .int .i64 0]) ∧ Keeps w w' := by
  have hc := chk_ok h
  have := firstP_any y m n q (by omega) (by omega) (by omega) (by omega) h1 (by omega) w
  rw [(frs_ok h h1 h2).2] at this
  exact this
theorem firP_any (y m n p : Int) (w : World) : Calls Tryz.prog 71 #[.agg #[.int .i64 y, .int .i64 m, .int .i64 n], .int .i64 p] w fun e w' => e = .returned (.tuple #[.int .i64 (firF y m n p).1, .int .i64 (firF y m n p).2]) ∧ Keeps w w' := by
  have HV : Hid (∀ W, Calls Tryz.prog 74 #[.agg #[.int .i64 y, .int .i64 m, .int .i64 n], .int .i64 p] W fun e w' => e = .returned (.int .i64 (chkF y m n p)) ∧ Keeps W w') := Lib.hid (fun W => chkP_any y m n p W)
  obtain ⟨c, hc⟩ : ∃ c, chkF y m n p = c := ⟨_, rfl⟩
  rw [hc] at HV
  by_cases h0 : c = 0
  · subst h0
    have HR : Hid (firF y m n p = (fdF (12 * y + m - 1 + p), 0)) := Lib.hid (if_pos hc)
    have HF : Hid (∀ W, Calls Tryz.prog 75 #[.agg #[.int .i64 y, .int .i64 m, .int .i64 n], .int .i64 p] W fun e w' => e = .returned (.tuple #[.int .i64 (fdF (12 * y + m - 1 + p)), .int .i64 0]) ∧ Keeps W w') := Lib.hid (fun W => firstP_ok hc (chk_ok hc).2.2.2.2.2.2.1 (Int.le_refl _) W)
    obtain ⟨d, hd⟩ : ∃ d, fdF (12 * y + m - 1 + p) = d := ⟨_, rfl⟩
    rw [hd] at HF HR
    clear hd hc
    go_enter Tryz.func71, Tryz.ntmps71
    go_wp2_with (first | (go_at_call 74; refine (HV.out _).mono ?_; rintro e w1 ⟨rfl, hk1⟩; have c0 := hk1.cell (p := ⟨w.heap.size, 0, none⟩) (v := .int .i64 y) (by go_simp); have c1 := hk1.cell (p := ⟨w.heap.size, 1, none⟩) (v := .int .i64 m) (by go_simp); have c2 := hk1.cell (p := ⟨w.heap.size, 2, none⟩) (v := .int .i64 n) (by go_simp); have cz := World.block_lt_of_cell? _ _ c0) | (go_at_call 75; refine (HF.out _).mono ?_; rintro e w2 ⟨rfl, hk2⟩))
    go_ret2
    exact ⟨by rw [HR.out]; rfl, ((Keeps.refl w).alloc _).trans (hk1.trans hk2)⟩
  · have HR : Hid (firF y m n p = (0, c)) := Lib.hid (by unfold firF; rw [hc, if_neg h0])
    have e1 : (c != 0) = true := by simpa using h0
    have e2 : (c == 0) = false := by simpa using h0
    clear hc h0
    go_enter Tryz.func71, Tryz.ntmps71
    go_wp2_with (go_at_call 74; refine (HV.out _).mono ?_; rintro e w1 ⟨rfl, hk1⟩; have c0 := hk1.cell (p := ⟨w.heap.size, 0, none⟩) (v := .int .i64 y) (by go_simp); have c1 := hk1.cell (p := ⟨w.heap.size, 1, none⟩) (v := .int .i64 m) (by go_simp); have c2 := hk1.cell (p := ⟨w.heap.size, 2, none⟩) (v := .int .i64 n) (by go_simp); have cz := World.block_lt_of_cell? _ _ c0)
    go_ret2
    exact ⟨by rw [HR.out]; rfl, ((Keeps.refl w).alloc _).trans hk1⟩
set_option maxHeartbeats 2000000 in
theorem lasP_any (y m n p : Int) (w : World) : Calls Tryz.prog 41 #[.agg #[.int .i64 y, .int .i64 m, .int .i64 n], .int .i64 p] w fun e w' => e = .returned (.tuple #[.int .i64 (lasF y m n p).1, .int .i64 (lasF y m n p).2]) ∧ Keeps w w' := by
  have HV : Hid (∀ W, Calls Tryz.prog 71 #[.agg #[.int .i64 y, .int .i64 m, .int .i64 n], .int .i64 p] W fun e w' => e = .returned (.tuple #[.int .i64 (firF y m n p).1, .int .i64 (firF y m n p).2]) ∧ Keeps W w') := Lib.hid (fun W => firP_any y m n p W)
  obtain ⟨c, hc⟩ : ∃ c, chkF y m n p = c := ⟨_, rfl⟩
  by_cases h0 : c = 0
  · subst h0
    have hk := chk_ok hc
    have hF : firF y m n p = (fdF (12 * y + m - 1 + p), 0) := if_pos hc
    have hL : lasF y m n p = (fdF (12 * y + m - 1 + p) + dmF ((12 * y + m - 1 + p).tdiv 12) ((12 * y + m - 1 + p).tmod 12 + 1) - 1, 0) := if_pos hc
    rw [hF] at HV
    have hm := month_of (n := 12 * y + m - 1 + p) (by omega) (by omega)
    have hD : fdF (12 * y + m - 1 + p) = begF ((12 * y + m - 1 + p).tdiv 12) + mofF ((12 * y + m - 1 + p).tdiv 12) ((12 * y + m - 1 + p).tmod 12).toNat := rfl
    rw [hD] at HV hL
    obtain ⟨a, ha⟩ : ∃ a, (12 * y + m - 1 + p).tdiv 12 = a := ⟨_, rfl⟩
    obtain ⟨j, hj⟩ : ∃ j, ((12 * y + m - 1 + p).tmod 12).toNat = j := ⟨_, rfl⟩
    rw [show (12 * y + m - 1 + p).tmod 12 = (j : Int) from by omega] at hL hm
    rw [hj, ha] at HV
    rw [ha] at hL hm
    rw [Int.toNat_natCast] at hL
    have HC : Hid (∀ W, Calls Tryz.prog 72 #[.int .i64 (begF a + mofF a j)] W fun e w' => e = .returned (.tuple #[.int .i64 a, .int .i64 ((j : Int) + 1), .int .i64 1, .int .i64 0]) ∧ Keeps W w') := Lib.hid (fun W => civP_any a j hm.1 hm.2.1 (by omega) W)
    have HD : Hid (∀ W, Calls Tryz.prog 73 #[.int .i64 a, .int .i64 ((j : Int) + 1)] W fun e w' => e = .returned (.int .i64 (dmF a ((j : Int) + 1))) ∧ Keeps W w') := Lib.hid (fun W => daysP_any a _ W)
    have hmo := month_ok hm.1 hm.2.1 (show j < 12 by omega)
    have b1 := hmo.min
    have b2 := hmo.max
    have b3 := hmo.d28
    have b4 := hmo.d31
    rw [show ((j + 1 : Nat) : Int) = (j : Int) + 1 from by omega] at b3 b4
    obtain ⟨d, hd⟩ : ∃ d, begF a + mofF a j = d := ⟨_, rfl⟩
    obtain ⟨D, hD'⟩ : ∃ D, dmF a ((j : Int) + 1) = D := ⟨_, rfl⟩
    rw [hd] at HV HC hL b1 b2
    rw [hD'] at HD hL b3 b4
    have HR := Lib.hid hL
    clear hd hD' hL hD hF hmo ha hj hm hc hk
    go_enter Tryz.func41, Tryz.ntmps41
    go_wp2_with (first | (go_at_call 71; refine (HV.out _).mono ?_; rintro e w1 ⟨rfl, hk1⟩) | (go_at_call 72; refine (HC.out _).mono ?_; rintro e w2 ⟨rfl, hk2⟩) | (go_at_call 73; refine (HD.out _).mono ?_; rintro e w3 ⟨rfl, hk3⟩))
    go_ret2
    exact ⟨by rw [HR.out]; rfl, ((Keeps.refl w).alloc _).trans (hk1.trans (hk2.trans hk3))⟩
  · have HR : Hid (lasF y m n p = (0, c)) := Lib.hid (by unfold lasF; rw [hc, if_neg h0])
    have hF : firF y m n p = (0, c) := by unfold firF; rw [hc, if_neg h0]
    rw [hF] at HV
    have e1 : (c != 0) = true := by simpa using h0
    have e2 : (c == 0) = false := by simpa using h0
    clear hc h0 hF
    go_enter Tryz.func41, Tryz.ntmps41
    go_wp2_with (go_at_call 71; refine (HV.out _).mono ?_; rintro e w1 ⟨rfl, hk1⟩)
    go_ret2
    exact ⟨by rw [HR.out]; rfl, ((Keeps.refl w).alloc _).trans hk1⟩
theorem yr_sub {y m n p : Int} (h : chkF y m n p = 0) : 0 ≤ p.tmod 12 ∧ p.tmod 12 ≤ p ∧ p ≤ 120 := by
  have := chk_ok h
  rw [tmod12 (by omega)]
  omega
set_option maxHeartbeats 2000000 in
theorem yrP_any (y m n p : Int) (w : World) : Calls Tryz.prog 42 #[.agg #[.int .i64 y, .int .i64 m, .int .i64 n], .int .i64 p] w fun e w' => e = .returned (.tuple #[.int .i64 (yrF y m n p).1, .int .i64 (yrF y m n p).2]) ∧ Keeps w w' := by
  have HV : Hid (∀ W, Calls Tryz.prog 74 #[.agg #[.int .i64 y, .int .i64 m, .int .i64 n], .int .i64 p] W fun e w' => e = .returned (.int .i64 (chkF y m n p)) ∧ Keeps W w') := Lib.hid (fun W => chkP_any y m n p W)
  obtain ⟨c, hc⟩ : ∃ c, chkF y m n p = c := ⟨_, rfl⟩
  rw [hc] at HV
  by_cases h0 : c = 0
  · subst h0
    have hs := yr_sub hc
    have hR : yrF y m n p = (fdF (12 * y + m - 1 + (p - p.tmod 12)), 0) := if_pos hc
    have HF : Hid (∀ W, Calls Tryz.prog 75 #[.agg #[.int .i64 y, .int .i64 m, .int .i64 n], .int .i64 (p - p.tmod 12)] W fun e w' => e = .returned (.tuple #[.int .i64 (fdF (12 * y + m - 1 + (p - p.tmod 12))), .int .i64 0]) ∧ Keeps W w') := Lib.hid (fun W => by exact firstP_ok hc (by omega) (by omega) W)
    obtain ⟨q, hq⟩ : ∃ q, p.tmod 12 = q := ⟨_, rfl⟩
    rw [hq] at HF hR hs
    obtain ⟨d, hd⟩ : ∃ d, fdF (12 * y + m - 1 + (p - q)) = d := ⟨_, rfl⟩
    rw [hd] at HF hR
    have HR := Lib.hid hR
    clear hd hc hR
    go_enter Tryz.func42, Tryz.ntmps42
    go_wp2_with (first | (go_at_call 74; refine (HV.out _).mono ?_; rintro e w1 ⟨rfl, hk1⟩; have c0 := hk1.cell (p := ⟨w.heap.size, 0, none⟩) (v := .int .i64 y) (by go_simp); have c1 := hk1.cell (p := ⟨w.heap.size, 1, none⟩) (v := .int .i64 m) (by go_simp); have c2 := hk1.cell (p := ⟨w.heap.size, 2, none⟩) (v := .int .i64 n) (by go_simp); have cz := World.block_lt_of_cell? _ _ c0) | (go_at_call 75; refine (HF.out _).mono ?_; rintro e w2 ⟨rfl, hk2⟩))
    go_ret2
    exact ⟨by rw [HR.out]; rfl, ((Keeps.refl w).alloc _).trans (hk1.trans hk2)⟩
  · have HR : Hid (yrF y m n p = (0, c)) := Lib.hid (by unfold yrF; rw [hc, if_neg h0])
    have e1 : (c != 0) = true := by simpa using h0
    have e2 : (c == 0) = false := by simpa using h0
    clear hc h0
    go_enter Tryz.func42, Tryz.ntmps42
    go_wp2_with (go_at_call 74; refine (HV.out _).mono ?_; rintro e w1 ⟨rfl, hk1⟩; have c0 := hk1.cell (p := ⟨w.heap.size, 0, none⟩) (v := .int .i64 y) (by go_simp); have c1 := hk1.cell (p := ⟨w.heap.size, 1, none⟩) (v := .int .i64 m) (by go_simp); have c2 := hk1.cell (p := ⟨w.heap.size, 2, none⟩) (v := .int .i64 n) (by go_simp); have cz := World.block_lt_of_cell? _ _ c0)
    go_ret2
    exact ⟨by rw [HR.out]; rfl, ((Keeps.refl w).alloc _).trans hk1⟩
end Go.Proofs.YtoaidbhiciaeaaaGreat

end
