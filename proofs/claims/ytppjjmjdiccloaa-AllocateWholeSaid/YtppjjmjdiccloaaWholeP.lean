/- AllocateWhole, plain: a portion is near to the exact one, so a running portion differs from the own one by at most 1. No program. -/
import Derived.Test.YtppjjmjdiccloaaRunP
namespace Go.Proofs.Ytppjjmjdiccloaa

theorem half_near (r b : Int) (hb : 0 < b) : -b ≤ 2 * (b * half r b) - 2 * r ∧ 2 * (b * half r b) - 2 * r ≤ b := by
  unfold half
  have h1 := Int.emod_add_mul_ediv (2 * r + b) (2 * b)
  have h2 := Int.emod_nonneg (2 * r + b) (show 2 * b ≠ 0 by omega)
  have h3 := Int.emod_lt_of_pos (2 * r + b) (show 0 < 2 * b by omega)
  have h4 : 2 * b * ((2 * r + b) / (2 * b)) = 2 * (b * ((2 * r + b) / (2 * b))) := Int.mul_assoc _ _ _
  omega
theorem psize_near (m num den : Int) (hd : 0 < den) : -den ≤ 2 * (den * psize m num den) - 2 * (m * num) ∧ 2 * (den * psize m num den) - 2 * (m * num) ≤ den := by
  have h := half_near (m * (num % den)) den hd
  have e : num = num % den + den * (num / den) := (Int.emod_add_mul_ediv num den).symm
  have e2 : m * num = m * (num % den) + m * (den * (num / den)) := by rw [← Int.mul_add, ← e]
  have e3 : den * psize m num den = m * (den * (num / den)) + den * half (m * (num % den)) den := by
    rw [psize, Int.mul_add, Int.mul_left_comm]
  omega
theorem portion_near (n num den : Int) (hp : pok n num den = true) (h : (portionS n num den).2 = 0) : -den ≤ 2 * (den * (portionS n num den).1) - 2 * (n * num) ∧ 2 * (den * (portionS n num den).1) - 2 * (n * num) ≤ den := by
  have hd := (pok_true.1 hp).2.2.2.1
  unfold portionS at *
  rw [if_pos hp] at *
  split at h
  · rename_i hz
    rw [if_pos hz]
    split at h
    · rename_i hs
      rw [if_pos hs]
      have := psize_near (-n) num den (by omega)
      have e1 : den * -psize (-n) num den = -(den * psize (-n) num den) := Int.mul_neg _ _
      have e2 : -n * num = -(n * num) := Int.neg_mul _ _
      simp only [e1]
      rw [e2] at this
      omega
    · simp at h
  · rename_i hz
    rw [if_neg hz]
    split at h
    · rename_i hs
      rw [if_pos hs]
      exact psize_near n num den (by omega)
    · simp at h
/-- The running portion of the amount at k is near to its own. -/
theorem run_near (l : List Int) (num den : Int) (k : Nat) (hk : k < l.length) (hp0 : pok 0 num den = true) (hx : amt l[k] = true)
    (h0 : amt (lsum (l.take k)) = true ∧ (portionS (lsum (l.take k)) num den).2 = 0) (h1 : amt (lsum (l.take (k + 1))) = true ∧ (portionS (lsum (l.take (k + 1))) num den).2 = 0) (hg : (portionS l[k] num den).2 = 0) :
    -1 ≤ runP l num den (k + 1) - runP l num den k - (portionS l[k] num den).1 ∧ runP l num den (k + 1) - runP l num den k - (portionS l[k] num den).1 ≤ 1 := by
  have hd := (pok_true.1 hp0).2.2.2.1
  have a := portion_near _ num den (pok_of hp0 h0.1) h0.2
  have b := portion_near _ num den (pok_of hp0 h1.1) h1.2
  have c := portion_near _ num den (pok_of hp0 hx) hg
  rw [lsum_take l k hk] at b
  have e : (lsum (l.take k) + l[k]) * num = lsum (l.take k) * num + l[k] * num := Int.add_mul _ _ _
  unfold runP
  rw [lsum_take l k hk]
  generalize (portionS (lsum (l.take k)) num den).1 = P0 at *
  generalize (portionS (lsum (l.take k) + l[k]) num den).1 = P1 at *
  generalize (portionS l[k] num den).1 = X at *
  have e2 : den * (P1 - P0 - X) = den * P1 - den * P0 - den * X := by rw [Int.mul_sub, Int.mul_sub]
  constructor
  · apply Int.le_of_not_gt
    intro h
    have : den * (P1 - P0 - X) ≤ den * (-2) := Int.mul_le_mul_of_nonneg_left (by omega) (by omega)
    omega
  · apply Int.le_of_not_gt
    intro h
    have : den * 2 ≤ den * (P1 - P0 - X) := Int.mul_le_mul_of_nonneg_left (by omega) (by omega)
    omega
theorem runOk_zero (l : List Int) (num den : Int) (hp0 : pok 0 num den = true) : amt (lsum (l.take 0)) = true ∧ (portionS (lsum (l.take 0)) num den).2 = 0 := by
  rw [lsum_zero]
  exact ⟨by decide, by rw [pok_zero, if_pos hp0]⟩
theorem runOk_true {l : List Int} {num den : Int} {k : Nat} (h : runOk l num den k = true) : amt (lsum (l.take k)) = true ∧ (portionS (lsum (l.take k)) num den).2 = 0 := by
  rwa [runOk, Bool.and_eq_true, decide_eq_true_eq] at h
/-- Under the condition of the law: all running portions, or ErrRange. -/
theorem runS_cases (l : List Int) (num den : Int) (hp : runPre l num den = true) : runS l num den = ([], 2) ∨ (runS l num den = (runL l num den l.length, 0) ∧ ∀ k, k < l.length → runOk l num den (k + 1) = true) := by
  unfold runS
  rw [if_pos hp]
  by_cases h : runAll l num den = true
  · right
    rw [if_pos h]
    refine ⟨rfl, fun k hk => ?_⟩
    rw [runAll, List.all_eq_true] at h
    exact h k (List.mem_range.2 hk)
  · left; rw [if_neg h]
theorem lsum_bd (l : List Int) (B : Int) (h : ∀ x ∈ l, -B ≤ x ∧ x ≤ B) : -(B * l.length) ≤ lsum l ∧ lsum l ≤ B * l.length := by
  induction l with
  | nil => simp [lsum]
  | cons x l ih =>
    have h1 := ih (fun y hy => h y (List.mem_cons_of_mem _ hy))
    have h2 := h x (List.mem_cons_self ..)
    have e : B * ((x :: l).length : Int) = B * (l.length : Int) + B := by rw [List.length_cons, Int.natCast_add, Int.mul_add]; simp
    rw [lsum_cons, e]
    omega
end Go.Proofs.Ytppjjmjdiccloaa
