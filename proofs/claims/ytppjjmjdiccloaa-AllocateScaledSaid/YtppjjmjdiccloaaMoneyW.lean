/- Money: the walks of both texts: Valid, checked, product, Round, Portion return what MoneyP says; they change nothing. -/
import Derived.Test.YtppjjmjdiccloaaProg
import Derived.Test.YtppjjmjdiccloaaBase
import Derived.Test.YtppjjmjdiccloaaMoneyP
import Derived.Deep.QuietTactic
import Derived.BigQuiet
namespace Go.Proofs.Ytppjjmjdiccloaa
open Go.RowKit

theorem mvalid_any (n : Int) (w : World) : Calls Try.prog 28 #[.int .i64 n] w fun e w' => e = .returned (.bool (amt n)) ∧ w = w' := by
  by_cases h1 : -1000000000000 ≤ n <;> by_cases h2 : n ≤ 1000000000000
  all_goals
    go_enter Try.func28, Try.ntmps28
    go_wp2
    go_ret
    exact ⟨by simp [amt, h1, h2], rfl⟩

theorem rvalid_any (n : Int) (w : World) : Calls Try.prog 30 #[.int .i64 n] w fun e w' => e = .returned (.bool (amt n)) ∧ w = w' := by
  by_cases h1 : -1000000000000 ≤ n <;> by_cases h2 : n ≤ 1000000000000
  all_goals
    go_enter Try.func30, Try.ntmps30
    go_wp2
    go_ret
    exact ⟨by simp [amt, h1, h2], rfl⟩

theorem mchecked_any (n : Int) (w : World) : Calls Try.prog 38 #[.int .i64 n] w fun e w' => e = .returned (.tuple #[.int .i64 (chk n).1, .int .i64 (chk n).2]) ∧ w = w' := by
  cases ht : amt n
  all_goals
    go_enter Try.func38, Try.ntmps38
    go_wp2_with (go_at_call 28; refine (mvalid_any _ _).mono ?_; rintro e w' ⟨rfl, rfl⟩)
    go_ret2
    exact ⟨ret2 (by simp [chk, ht]) (by simp [chk, ht]), rfl⟩

theorem rchecked_any (n : Int) (w : World) : Calls Try.prog 36 #[.int .i64 n] w fun e w' => e = .returned (.tuple #[.int .i64 (chk n).1, .int .i64 (chk n).2]) ∧ w = w' := by
  cases ht : amt n
  all_goals
    go_enter Try.func36, Try.ntmps36
    go_wp2_with (go_at_call 30; refine (rvalid_any _ _).mono ?_; rintro e w' ⟨rfl, rfl⟩)
    go_ret2
    exact ⟨ret2 (by simp [chk, ht]) (by simp [chk, ht]), rfl⟩

set_option maxHeartbeats 400000 in
theorem rround_any (a b : Int) (w : World) (ha : 0 ≤ a) (ha2 : a ≤ 2000000000000000000) (hb : 1 ≤ b) (hb2 : b ≤ 1000000) :
    Calls Try.prog 37 #[.int .i64 a, .int .i64 b] w fun e w' => e = .returned (.int .i64 (half a b)) ∧ ∃ n, w' = w.drewN n := by
  have hr0 := Int.emod_nonneg a (show b ≠ 0 by omega)
  have hr1 := Int.emod_lt_of_pos a (show 0 < b by omega)
  have hq0 : 0 ≤ a / b := Int.ediv_nonneg ha (by omega)
  have hq1 : a / b ≤ a := Int.ediv_le_self _ ha
  have HH := Lib.hid (half_round a b (by omega))
  have hn : ¬ a < 0 := by omega
  by_cases ht : a % b ≥ b - a % b
  · have hf : half a b = a / b + 1 := by rw [HH.out, if_pos ht]
    have HF := Lib.hid hf
    clear hf HH
    go_enter Try.func37, Try.ntmps37
    go_wp2
    go_quiet (fail)
    go_wp2
    go_ret
    exact ⟨ret1 (by rw [HF.out]), _, rfl⟩
  · have hf : half a b = a / b := by rw [HH.out, if_neg ht]
    have HF := Lib.hid hf
    clear hf HH
    go_enter Try.func37, Try.ntmps37
    go_wp2
    go_quiet (fail)
    go_wp2
    go_ret
    exact ⟨ret1 (by rw [HF.out]), _, rfl⟩

/-- The facts on the arithmetic that both texts want, for an amount of the size m. -/
theorem bounds (m num den : Int) (h0 : 0 ≤ m) (h1 : m ≤ 1000000000000) (hn : 0 ≤ num) (hn1 : num ≤ 1000000000000) (hd : 1 ≤ den) (hd1 : den ≤ 1000000) :
    0 ≤ num / den ∧ num / den ≤ 1000000000000 ∧ 0 ≤ num % den ∧ num % den < den ∧ 0 ≤ m * (num % den) ∧ m * (num % den) ≤ 1000000000000000000 ∧ 0 ≤ half (m * (num % den)) den ∧ half (m * (num % den)) den ≤ m ∧ 0 ≤ m * (num / den) := by
  have hq0 : 0 ≤ num / den := Int.ediv_nonneg hn (by omega)
  have hq1 : num / den ≤ num := Int.ediv_le_self _ hn
  have hr0 := Int.emod_nonneg num (show den ≠ 0 by omega)
  have hr1 := Int.emod_lt_of_pos num (show 0 < den by omega)
  have h2 := mul_le_of m (num % den) den h0 h1 hr0 hr1 hd1
  have h3 := half_bd m (num % den) den h0 hr0 hr1
  exact ⟨hq0, by omega, hr0, hr1, h2.1, h2.2, h3.1, h3.2, Int.mul_nonneg h0 hq0⟩

theorem chk_fst {n : Int} (h : -1000000000000 ≤ n) (h2 : n ≤ 1000000000000) : chk n = (n, 0) := by rw [chk, if_pos (amt_true.2 ⟨h, h2⟩)]
theorem chk_over {n : Int} (h : 1000000000000 < n) : chk n = (0, 2) := by rw [chk, if_neg]; rw [amt_true]; omega
theorem chk_under {n : Int} (h : n < -1000000000000) : chk n = (0, 2) := by rw [chk, if_neg]; rw [amt_true]; omega

set_option maxHeartbeats 400000 in
/-- product, for a fraction and an amount that fit: the amount may be negative. -/
theorem mproduct_fit (n m num den : Int) (w : World) (hm : m = if n < 0 then -n else n) (h1 : -1000000000000 ≤ n) (h1' : n ≤ 1000000000000) (hn : 0 ≤ num) (hn1 : num ≤ 1000000000000) (hd : 1 ≤ den) (hd1 : den ≤ 1000000) (hfit : m * (num / den) ≤ 1000000000000) :
    Calls Try.prog 32 #[.int .i64 n, .int .i64 num, .int .i64 den] w fun e w' => e = .returned (.tuple #[.int .i64 (chk (if n < 0 then -psize m num den else psize m num den)).1, .int .i64 (chk (if n < 0 then -psize m num den else psize m num den)).2]) ∧ ∃ n, w' = w.drewN n := by
  have m0 : 0 ≤ m := by rw [hm]; split <;> omega
  have m1 : m ≤ 1000000000000 := by rw [hm]; split <;> omega
  obtain ⟨b1, b2, b3, b4, b5, b6, b7, b8, b9⟩ := bounds m num den m0 m1 hn hn1 hd hd1
  have hx : ¬ (0 < num / den ∧ 1000000000000 / (num / den) < m) := fun h => by have := (early m _ h.1).1 h.2; omega
  have e2 : 2 * m * (num % den) = 2 * (m * (num % den)) := Int.mul_assoc _ _ _
  have c1 : 0 ≤ 2 * m * (num % den) ∧ 2 * m * (num % den) ≤ 2000000000000000000 := by omega
  have eh : (2 * m * (num % den) + den) / (2 * den) = half (m * (num % den)) den := by rw [half, e2]
  have c2 : 0 ≤ (2 * m * (num % den) + den) / (2 * den) ∧ (2 * m * (num % den) + den) / (2 * den) ≤ 1000000000000 := by rw [eh]; omega
  have ep : m * (num / den) + (2 * m * (num % den) + den) / (2 * den) = psize m num den := by rw [eh, psize]
  have EP := Lib.hid ep
  clear e2 eh ep b5 b6 b7 b8
  by_cases hz : n < 0
  · rw [if_pos hz] at hm
    subst hm
    by_cases hq : 0 < num / den
    · have hx : ¬ 1000000000000 / (num / den) < -n := fun h => hx ⟨hq, h⟩
      go_enter Try.func32, Try.ntmps32
      go_wp2
      go_quiet (fail)
      go_wp2_with (go_at_call 38; refine (mchecked_any _ _).mono ?_; rintro e w' ⟨rfl, rfl⟩)
      go_ret2
      exact ⟨ret2 (by rw [← EP.out]) (by rw [← EP.out]), _, rfl⟩
    · go_enter Try.func32, Try.ntmps32
      go_wp2
      go_quiet (fail)
      go_wp2_with (go_at_call 38; refine (mchecked_any _ _).mono ?_; rintro e w' ⟨rfl, rfl⟩)
      go_ret2
      exact ⟨ret2 (by rw [← EP.out]) (by rw [← EP.out]), _, rfl⟩
  · rw [if_neg hz] at hm
    subst hm
    by_cases hq : 0 < num / den
    · have hx : ¬ 1000000000000 / (num / den) < m := fun h => hx ⟨hq, h⟩
      go_enter Try.func32, Try.ntmps32
      go_wp2
      go_quiet (fail)
      go_wp2_with (go_at_call 38; refine (mchecked_any _ _).mono ?_; rintro e w' ⟨rfl, rfl⟩)
      go_ret2
      exact ⟨ret2 (by rw [← EP.out]) (by rw [← EP.out]), _, rfl⟩
    · go_enter Try.func32, Try.ntmps32
      go_wp2
      go_quiet (fail)
      go_wp2_with (go_at_call 38; refine (mchecked_any _ _).mono ?_; rintro e w' ⟨rfl, rfl⟩)
      go_ret2
      exact ⟨ret2 (by rw [← EP.out]) (by rw [← EP.out]), _, rfl⟩

set_option maxHeartbeats 400000 in
theorem mproduct_over (n m num den : Int) (w : World) (hm : m = if n < 0 then -n else n) (h1 : -1000000000000 ≤ n) (h1' : n ≤ 1000000000000) (hn : 0 ≤ num) (hn1 : num ≤ 1000000000000) (hd : 1 ≤ den) (hover : 1000000000000 < m * (num / den)) :
    Calls Try.prog 32 #[.int .i64 n, .int .i64 num, .int .i64 den] w fun e w' => e = .returned (.tuple #[.int .i64 0, .int .i64 2]) ∧ ∃ n, w' = w.drewN n := by
  have hq0 : 0 ≤ num / den := Int.ediv_nonneg hn (by omega)
  have hq1 : num / den ≤ num := Int.ediv_le_self _ hn
  have hr0 := Int.emod_nonneg num (show den ≠ 0 by omega)
  have hr1 := Int.emod_lt_of_pos num (show 0 < den by omega)
  have hq : 0 < num / den := by
    rcases Int.lt_or_eq_of_le hq0 with h | h
    · exact h
    · rw [← h, Int.mul_zero] at hover; omega
  have hx := (early m _ hq).2 hover
  clear hover
  by_cases hz : n < 0
  · rw [if_pos hz] at hm
    subst hm
    go_enter Try.func32, Try.ntmps32
    go_wp2
    go_quiet (fail)
    go_wp2_with fail
    go_ret2
    exact ⟨rfl, _, rfl⟩
  · rw [if_neg hz] at hm
    subst hm
    go_enter Try.func32, Try.ntmps32
    go_wp2
    go_quiet (fail)
    go_wp2_with fail
    go_ret2
    exact ⟨rfl, _, rfl⟩

set_option maxHeartbeats 400000 in
theorem mportion_any (n num den : Int) (w : World) :
    Calls Try.prog 21 #[.int .i64 n, .int .i64 num, .int .i64 den] w fun e w' => Gives w (.tuple #[.int .i64 (portionS n num den).1, .int .i64 (portionS n num den).2]) e w' := by
  by_cases hp : pok n num den = true
  · obtain ⟨⟨h1, h1'⟩, hn, hn1, hd, hd1⟩ := pok_true.1 hp
    have ha := amt_true.2 ⟨h1, h1'⟩
    obtain ⟨m, hm⟩ : ∃ m, m = if n < 0 then -n else n := ⟨_, rfl⟩
    have hc : Calls Try.prog 32 #[.int .i64 n, .int .i64 num, .int .i64 den] w fun e w' => e = .returned (.tuple #[.int .i64 (portionS n num den).1, .int .i64 (portionS n num den).2]) ∧ ∃ n, w' = w.drewN n := by
      have m0 : 0 ≤ m := by rw [hm]; split <;> omega
      have m1 : m ≤ 1000000000000 := by rw [hm]; split <;> omega
      obtain ⟨b1, b2, b3, b4, b5, b6, b7, b8, b9⟩ := bounds m num den m0 m1 hn hn1 hd hd1
      by_cases hfit : m * (num / den) ≤ 1000000000000
      · refine (mproduct_fit n m num den w hm h1 h1' hn hn1 hd hd1 hfit).mono ?_
        rintro e w' ⟨rfl, hw⟩
        have e1 : chk (if n < 0 then -psize m num den else psize m num den) = portionS n num den := by
          rw [portionS, if_pos hp]
          by_cases hz : n < 0
          · rw [if_pos hz] at hm
            subst hm
            rw [if_pos hz, if_pos hz]
            by_cases hs : psize (-n) num den ≤ 1000000000000
            · rw [if_pos hs, chk_fst (by omega) (by have : 0 ≤ psize (-n) num den := by unfold psize; omega
                                                    omega)]
            · rw [if_neg hs, chk_under (by omega)]
          · rw [if_neg hz] at hm
            subst hm
            rw [if_neg hz, if_neg hz]
            by_cases hs : psize m num den ≤ 1000000000000
            · rw [if_pos hs, chk_fst (by have : 0 ≤ psize m num den := by unfold psize; omega
                                         omega) hs]
            · rw [if_neg hs, chk_over (by omega)]
        exact ⟨by rw [e1], hw⟩
      · refine (mproduct_over n m num den w hm h1 h1' hn hn1 hd (by omega)).mono ?_
        rintro e w' ⟨rfl, hw⟩
        have e1 : portionS n num den = (0, 2) := by
          rw [portionS, if_pos hp]
          have : 1000000000000 < psize m num den := by unfold psize; omega
          by_cases hz : n < 0
          · rw [if_pos hz] at hm
            subst hm
            rw [if_pos hz, if_neg (by omega)]
          · rw [if_neg hz] at hm
            subst hm
            rw [if_neg hz, if_neg (by omega)]
        exact ⟨by rw [e1], hw⟩
    have HC := Lib.hid hc
    clear hc hm hp
    go_enter Try.func21, Try.ntmps21
    go_wp2_with (first | (go_at_call 28; refine (mvalid_any _ _).mono ?_; rintro e w' ⟨rfl, rfl⟩) | (go_at_call 32; refine HC.out.mono ?_; rintro e w' ⟨rfl, nd, rfl⟩))
    go_ret2
    exact ⟨rfl, _, rfl⟩
  · have e1 : portionS n num den = (0, 1) := by rw [portionS, if_neg hp]
    have H1 := Lib.hid e1
    clear e1
    simp only [pok, Bool.and_eq_true, decide_eq_true_eq] at hp
    have hq : amt n = false ∨ (amt n = true ∧ num < 0) ∨ (amt n = true ∧ 0 ≤ num ∧ 1000000000000 < num) ∨ (amt n = true ∧ 0 ≤ num ∧ num ≤ 1000000000000 ∧ den < 1) ∨ (amt n = true ∧ 0 ≤ num ∧ num ≤ 1000000000000 ∧ 1 ≤ den ∧ 1000000 < den) := by
      cases hA : amt n
      · exact .inl rfl
      · have hp' : ¬ (0 ≤ num ∧ num ≤ 1000000000000 ∧ 1 ≤ den ∧ den ≤ 1000000) := fun h => hp ⟨hA, h⟩
        refine .inr ?_
        by_cases a1 : num < 0
        · exact .inl ⟨rfl, a1⟩
        refine .inr ?_
        by_cases a2 : 1000000000000 < num
        · exact .inl ⟨rfl, by omega, a2⟩
        refine .inr ?_
        by_cases a3 : den < 1
        · exact .inl ⟨rfl, by omega, by omega, a3⟩
        · exact .inr ⟨rfl, by omega, by omega, by omega, by omega⟩
    clear hp
    rcases hq with hq | ⟨hq, h2⟩ | ⟨hq, h2, h3⟩ | ⟨hq, h2, h3, h4⟩ | ⟨hq, h2, h3, h4, h5⟩
    all_goals
      go_enter Try.func21, Try.ntmps21
      go_wp2_with (go_at_call 28; refine (mvalid_any _ _).mono ?_; rintro e w' ⟨rfl, rfl⟩)
      go_ret2
      exact ⟨by rw [H1.out]; rfl, 0, rfl⟩

set_option maxHeartbeats 400000 in
/-- The reference's Portion, for an amount that is not negative. -/
theorem rportion_pos (n num den : Int) (w : World) (h0 : 0 ≤ n) (hp : pok n num den = true) :
    Calls Try.prog 31 #[.int .i64 n, .int .i64 num, .int .i64 den] w fun e w' => Gives w (.tuple #[.int .i64 (portionS n num den).1, .int .i64 (portionS n num den).2]) e w' := by
  obtain ⟨⟨h1, h1'⟩, hn, hn1, hd, hd1⟩ := pok_true.1 hp
  have ha := amt_true.2 ⟨h1, h1'⟩
  have hz : ¬ n < 0 := by omega
  obtain ⟨b1, b2, b3, b4, b5, b6, b7, b8, b9⟩ := bounds n num den h0 h1' hn hn1 hd hd1
  have eS : portionS n num den = chk (psize n num den) := by
    rw [portionS, if_pos hp, if_neg hz]
    by_cases hs : psize n num den ≤ 1000000000000
    · rw [if_pos hs, chk_fst (by have : 0 ≤ psize n num den := by unfold psize; omega
                                 omega) hs]
    · rw [if_neg hs, chk_over (by omega)]
  by_cases hfit : n * (num / den) ≤ 1000000000000
  · have hx : ¬ (0 < n ∧ 1000000000000 / n < num / den) := fun h => by have := (early (num / den) n h.1).1 h.2; rw [Int.mul_comm] at this; omega
    have ES := Lib.hid eS
    have EP := Lib.hid (show n * (num / den) + half (n * (num % den)) den = psize n num den from rfl)
    clear eS hp
    by_cases hq : 0 < n
    · have hx : ¬ 1000000000000 / n < num / den := fun h => hx ⟨hq, h⟩
      go_enter Try.func31, Try.ntmps31
      go_wp2_with (go_at_call 30; refine (rvalid_any _ _).mono ?_; rintro e w' ⟨rfl, rfl⟩)
      go_quiet (fail)
      go_wp2_with (first | (go_at_call 37; refine (rround_any _ _ _ (by omega) (by omega) (by omega) (by omega)).mono ?_; rintro e w' ⟨rfl, nd, rfl⟩) | (go_at_call 36; refine (rchecked_any _ _).mono ?_; rintro e w' ⟨rfl, rfl⟩))
      go_ret2
      exact ⟨ret2 (by rw [ES.out, ← EP.out]) (by rw [ES.out, ← EP.out]), _, rfl⟩
    · go_enter Try.func31, Try.ntmps31
      go_wp2_with (go_at_call 30; refine (rvalid_any _ _).mono ?_; rintro e w' ⟨rfl, rfl⟩)
      go_quiet (fail)
      go_wp2_with (first | (go_at_call 37; refine (rround_any _ _ _ (by omega) (by omega) (by omega) (by omega)).mono ?_; rintro e w' ⟨rfl, nd, rfl⟩) | (go_at_call 36; refine (rchecked_any _ _).mono ?_; rintro e w' ⟨rfl, rfl⟩))
      go_ret2
      exact ⟨ret2 (by rw [ES.out, ← EP.out]) (by rw [ES.out, ← EP.out]), _, rfl⟩
  · have hq : 0 < n := by
      rcases Int.lt_or_eq_of_le h0 with h | h
      · exact h
      · rw [← h, Int.zero_mul] at hfit; omega
    have hx : 1000000000000 / n < num / den := (early (num / den) n hq).2 (by rw [Int.mul_comm]; omega)
    have e2 : portionS n num den = (0, 2) := by rw [eS, chk_over (by unfold psize; omega)]
    have E2 := Lib.hid e2
    clear eS e2 hp hfit
    go_enter Try.func31, Try.ntmps31
    go_wp2_with (go_at_call 30; refine (rvalid_any _ _).mono ?_; rintro e w' ⟨rfl, rfl⟩)
    go_quiet (fail)
    go_wp2_with fail
    go_ret2
    exact ⟨by rw [E2.out]; rfl, _, rfl⟩

theorem portion_neg (n num den : Int) (hz : n < 0) : portionS n num den = (-(portionS (-n) num den).1, (portionS (-n) num den).2) := by
  have hk : pok (-n) num den = pok n num den := by
    rw [Bool.eq_iff_iff, pok_true, pok_true]; omega
  unfold portionS
  rw [hk]
  split
  · simp only [show ¬ -n < 0 by omega, if_false]
    split <;> rfl
  · rfl

set_option maxHeartbeats 400000 in
theorem rportion_any (n num den : Int) (w : World) :
    Calls Try.prog 31 #[.int .i64 n, .int .i64 num, .int .i64 den] w fun e w' => Gives w (.tuple #[.int .i64 (portionS n num den).1, .int .i64 (portionS n num den).2]) e w' := by
  by_cases hp : pok n num den = true
  · by_cases hz : n < 0
    · have HN := Lib.hid (portion_neg n num den hz)
      have hp' : pok (-n) num den = true := by rw [pok_true] at hp ⊢; omega
      obtain ⟨⟨h1, h1'⟩, hn, hn1, hd, hd1⟩ := pok_true.1 hp
      have ha := amt_true.2 ⟨h1, h1'⟩
      have HC := fun w => rportion_pos (-n) num den w (by omega) hp'
      have hb := portion_amt (-n) num den
      have HC := Lib.hid HC
      clear hp hp'
      go_enter Try.func31, Try.ntmps31
      go_wp2_with (first | (go_at_call 30; refine (rvalid_any _ _).mono ?_; rintro e w' ⟨rfl, rfl⟩) | (go_at_call 31; refine (HC.out _).mono ?_; rintro e w' ⟨rfl, nd, rfl⟩))
      go_ret2
      exact ⟨ret2 (by rw [HN.out]) (by rw [HN.out]), _, rfl⟩
    · exact rportion_pos n num den w (by omega) hp
  · have e1 : portionS n num den = (0, 1) := by rw [portionS, if_neg hp]
    have H1 := Lib.hid e1
    clear e1
    simp only [pok, Bool.and_eq_true, decide_eq_true_eq] at hp
    have hq : amt n = false ∨ (amt n = true ∧ num < 0) ∨ (amt n = true ∧ 0 ≤ num ∧ 1000000000000 < num) ∨ (amt n = true ∧ 0 ≤ num ∧ num ≤ 1000000000000 ∧ den < 1) ∨ (amt n = true ∧ 0 ≤ num ∧ num ≤ 1000000000000 ∧ 1 ≤ den ∧ 1000000 < den) := by
      cases hA : amt n
      · exact .inl rfl
      · have hp' : ¬ (0 ≤ num ∧ num ≤ 1000000000000 ∧ 1 ≤ den ∧ den ≤ 1000000) := fun h => hp ⟨hA, h⟩
        refine .inr ?_
        by_cases a1 : num < 0
        · exact .inl ⟨rfl, a1⟩
        refine .inr ?_
        by_cases a2 : 1000000000000 < num
        · exact .inl ⟨rfl, by omega, a2⟩
        refine .inr ?_
        by_cases a3 : den < 1
        · exact .inl ⟨rfl, by omega, by omega, a3⟩
        · exact .inr ⟨rfl, by omega, by omega, by omega, by omega⟩
    clear hp
    rcases hq with hq | ⟨hq, h2⟩ | ⟨hq, h2, h3⟩ | ⟨hq, h2, h3, h4⟩ | ⟨hq, h2, h3, h4, h5⟩
    all_goals
      go_enter Try.func31, Try.ntmps31
      go_wp2_with (go_at_call 30; refine (rvalid_any _ _).mono ?_; rintro e w' ⟨rfl, rfl⟩)
      go_ret2
      exact ⟨by rw [H1.out]; rfl, 0, rfl⟩
end Go.Proofs.Ytppjjmjdiccloaa
