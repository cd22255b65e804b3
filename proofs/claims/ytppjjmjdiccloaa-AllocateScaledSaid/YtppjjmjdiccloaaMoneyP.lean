/- Money, the plain arithmetic: what a portion of an amount is, and that both texts reckon it. No program. -/
namespace Go.Proofs.Ytppjjmjdiccloaa

def amt (n : Int) : Bool := decide (-1000000000000 ≤ n) && decide (n ≤ 1000000000000)
theorem amt_true {n : Int} : amt n = true ↔ -1000000000000 ≤ n ∧ n ≤ 1000000000000 := by simp [amt]
theorem amt_false {n : Int} : amt n = false ↔ n < -1000000000000 ∨ 1000000000000 < n := by simp only [amt, Bool.and_eq_false_iff, decide_eq_false_iff_not]; omega

def chk (n : Int) : Int × Int := if amt n = true then (n, 0) else (0, 2)

/-- a / b, rounded half up, for a that is not negative. -/
def half (a b : Int) : Int := (2 * a + b) / (2 * b)
/-- The size of a portion, of an amount of the size m. -/
def psize (m num den : Int) : Int := m * (num / den) + half (m * (num % den)) den
def pok (n num den : Int) : Bool := amt n && (decide (0 ≤ num) && (decide (num ≤ 1000000000000) && (decide (1 ≤ den) && decide (den ≤ 1000000))))
def portionS (n num den : Int) : Int × Int :=
  if pok n num den = true then (if n < 0 then (if psize (-n) num den ≤ 1000000000000 then (-psize (-n) num den, 0) else (0, 2)) else (if psize n num den ≤ 1000000000000 then (psize n num den, 0) else (0, 2))) else (0, 1)

theorem half_bd (m r b : Int) (h0 : 0 ≤ m) (hr0 : 0 ≤ r) (hr : r < b) : 0 ≤ half (m * r) b ∧ half (m * r) b ≤ m := by
  have hb : 0 < b := by omega
  have hmr : 0 ≤ m * r := Int.mul_nonneg h0 hr0
  refine ⟨Int.ediv_nonneg (by omega) (by omega), ?_⟩
  unfold half
  have h1 : m * r ≤ m * (b - 1) := Int.mul_le_mul_of_nonneg_left (by omega) h0
  have h2 : m * (b - 1) = m * b - m := by rw [Int.mul_sub, Int.mul_one]
  by_cases hm : m = 0
  · subst hm
    have : (2 * (0 * r) + b) / (2 * b) = 0 := by rw [Int.zero_mul, Int.mul_zero, Int.zero_add]; exact Int.ediv_eq_zero_of_lt (by omega) (by omega)
    omega
  · have h3 : (2 * (m * r) + b) / (2 * b) < m + 1 := by
      apply Int.ediv_lt_of_lt_mul (by omega)
      have h4 : (m + 1) * (2 * b) = 2 * (m * b) + 2 * b := by rw [Int.add_mul, Int.one_mul]; congr 1; rw [Int.mul_left_comm]
      have h5 : m * r ≤ m * b - m := by omega
      omega
    omega

/-- Round of the reference: the quotient, one more if the rest is at least half. -/
theorem half_round (a b : Int) (hb : 0 < b) : half a b = if a % b ≥ b - a % b then a / b + 1 else a / b := by
  have h1 := Int.emod_add_mul_ediv a b
  have h2 := Int.emod_nonneg a (show b ≠ 0 by omega)
  have h3 := Int.emod_lt_of_pos a hb
  unfold half
  have e : 2 * a + b = (2 * (a % b) + b) + (2 * b) * (a / b) := by
    have : (2 * b) * (a / b) = 2 * (b * (a / b)) := by rw [Int.mul_assoc]
    omega
  rw [e, Int.add_mul_ediv_left _ _ (by omega)]
  split
  · rw [show (2 * (a % b) + b) / (2 * b) = 1 by
      rw [show 2 * (a % b) + b = (2 * (a % b) - b) + (2 * b) * 1 by omega, Int.add_mul_ediv_left _ _ (by omega), Int.ediv_eq_zero_of_lt (by omega) (by omega)]; rfl]
    omega
  · rw [Int.ediv_eq_zero_of_lt (by omega) (by omega)]
    omega

/-- The early test of the program: it refuses nothing that fits. -/
theorem early (m q : Int) (hq : 0 < q) : 1000000000000 / q < m ↔ 1000000000000 < m * q := by
  constructor
  · intro h
    have h1 := Int.lt_mul_ediv_self_add (x := (1000000000000 : Int)) hq
    have h2 : q * (1000000000000 / q + 1) ≤ q * m := Int.mul_le_mul_of_nonneg_left (by omega) (by omega)
    rw [Int.mul_add, Int.mul_one] at h2
    rw [Int.mul_comm m q]
    omega
  · intro h
    have h1 := Int.mul_ediv_self_le (x := (1000000000000 : Int)) (k := q) (by omega)
    apply Int.lt_of_not_ge
    intro h3
    have h2 : q * m ≤ q * (1000000000000 / q) := Int.mul_le_mul_of_nonneg_left h3 (by omega)
    rw [Int.mul_comm q m] at h2
    omega

theorem mul_le_of (m r b : Int) (h0 : 0 ≤ m) (hm : m ≤ 1000000000000) (hr0 : 0 ≤ r) (hr : r < b) (hb : b ≤ 1000000) : 0 ≤ m * r ∧ m * r ≤ 1000000000000000000 := by
  refine ⟨Int.mul_nonneg h0 hr0, ?_⟩
  have h1 : m * r ≤ m * 1000000 := Int.mul_le_mul_of_nonneg_left (by omega) h0
  omega
theorem pok_true {n num den : Int} : pok n num den = true ↔ (-1000000000000 ≤ n ∧ n ≤ 1000000000000) ∧ 0 ≤ num ∧ num ≤ 1000000000000 ∧ 1 ≤ den ∧ den ≤ 1000000 := by
  simp [pok, amt]
theorem portion_amt (n num den : Int) : -1000000000000 ≤ (portionS n num den).1 ∧ (portionS n num den).1 ≤ 1000000000000 := by
  unfold portionS
  split
  · rename_i h
    have hp := pok_true.1 h
    have hd : 0 ≤ num / den := Int.ediv_nonneg (by omega) (by omega)
    have hr0 := Int.emod_nonneg num (show den ≠ 0 by omega)
    have hr := Int.emod_lt_of_pos num (show 0 < den by omega)
    split
    · have h1 := (half_bd (-n) (num % den) den (by omega) hr0 hr).1
      have h2 : 0 ≤ (-n) * (num / den) := Int.mul_nonneg (by omega) hd
      split <;> simp only [psize] at * <;> omega
    · have h1 := (half_bd n (num % den) den (by omega) hr0 hr).1
      have h2 : 0 ≤ n * (num / den) := Int.mul_nonneg (by omega) hd
      split <;> simp only [psize] at * <;> omega
  · simp
end Go.Proofs.Ytppjjmjdiccloaa
