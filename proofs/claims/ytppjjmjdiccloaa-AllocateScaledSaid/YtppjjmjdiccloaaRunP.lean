/- Running portions, plain: what both texts return. No program. -/
import Derived.Test.YtppjjmjdiccloaaMoneyP
namespace Go.Proofs.Ytppjjmjdiccloaa

def lsum (l : List Int) : Int := l.foldl (· + ·) 0
theorem lsum_snoc (l : List Int) (x : Int) : lsum (l ++ [x]) = lsum l + x := by simp [lsum, List.foldl_append]
theorem lsum_cons (x : Int) (l : List Int) : lsum (x :: l) = x + lsum l := by
  have h : ∀ (l : List Int) (a : Int), l.foldl (· + ·) a = a + l.foldl (· + ·) 0 := by
    intro l
    induction l with
    | nil => simp
    | cons y l ih => intro a; simp only [List.foldl_cons]; rw [ih (a + y), ih (0 + y)]; omega
  simp only [lsum, List.foldl_cons]
  rw [h]; omega
theorem lsum_take (l : List Int) (k : Nat) (h : k < l.length) : lsum (l.take (k + 1)) = lsum (l.take k) + l[k] := by
  rw [List.take_succ_eq_append_getElem h, lsum_snoc]
theorem lsum_zero (l : List Int) : lsum (l.take 0) = 0 := rfl

/-- The portion of the sum of the first k numbers. -/
def runP (l : List Int) (num den : Int) (k : Nat) : Int := (portionS (lsum (l.take k)) num den).1
/-- The first k numbers have a sum that is an amount, and its portion is one. -/
def runOk (l : List Int) (num den : Int) (k : Nat) : Bool := amt (lsum (l.take k)) && decide ((portionS (lsum (l.take k)) num den).2 = 0)
def runAll (l : List Int) (num den : Int) : Bool := (List.range l.length).all fun k => runOk l num den (k + 1)
def runL (l : List Int) (num den : Int) (k : Nat) : List Int := (List.range k).map fun j => runP l num den (j + 1) - runP l num den j
def runPre (l : List Int) (num den : Int) : Bool := pok 0 num den && l.all amt
def runS (l : List Int) (num den : Int) : List Int × Int :=
  if runPre l num den = true then (if runAll l num den = true then (runL l num den l.length, 0) else ([], 2)) else ([], 1)

theorem runL_succ (l : List Int) (num den : Int) (k : Nat) : runL l num den (k + 1) = runL l num den k ++ [runP l num den (k + 1) - runP l num den k] := by
  simp [runL, List.range_succ]
theorem runL_length (l : List Int) (num den : Int) (k : Nat) : (runL l num den k).length = k := by simp [runL]
theorem runP_zero (l : List Int) (num den : Int) : runP l num den 0 = 0 := by
  unfold runP
  rw [lsum_zero, portionS]
  split
  · rename_i h
    have h0 : psize 0 num den = 0 := by
      have hd := (pok_true.1 h).2.2.2.1
      rw [psize, half, Int.zero_mul, Int.zero_mul, Int.mul_zero, Int.zero_add, Int.zero_add]
      exact Int.ediv_eq_zero_of_lt (by omega) (by omega)
    simp [h0]
  · rfl
theorem runP_amt (l : List Int) (num den : Int) (k : Nat) : -1000000000000 ≤ runP l num den k ∧ runP l num den k ≤ 1000000000000 := portion_amt _ _ _
theorem portion_err (n num den : Int) (hp : pok n num den = true) : (portionS n num den).2 = 0 ∨ (portionS n num den).2 = 2 := by
  rw [portionS, if_pos hp]
  split <;> split <;> simp
theorem pok_of {n num den : Int} (h : pok 0 num den = true) (ha : amt n = true) : pok n num den = true := by
  rw [pok_true] at *; rw [amt_true] at ha; omega
theorem pok_zero (num den : Int) : (portionS 0 num den).2 = if pok 0 num den = true then 0 else 1 := by
  unfold portionS
  by_cases h : pok 0 num den = true
  · rw [if_pos h, if_pos h]
    have h0 : psize 0 num den = 0 := by
      have hd := (pok_true.1 h).2.2.2.1
      rw [psize, half, Int.zero_mul, Int.zero_mul, Int.mul_zero, Int.zero_add, Int.zero_add]
      exact Int.ediv_eq_zero_of_lt (by omega) (by omega)
    simp [h0]
  · rw [if_neg h, if_neg h]
theorem runS_stop (l : List Int) (num den : Int) (hp : runPre l num den = true) (k : Nat) (hk : k < l.length) (h : runOk l num den (k + 1) = false) : runS l num den = ([], 2) := by
  have : runAll l num den = false := by
    rw [runAll, List.all_eq_false]
    exact ⟨k, List.mem_range.2 hk, by simp [h]⟩
  rw [runS, if_pos hp, this]; rfl
theorem runS_all (l : List Int) (num den : Int) (hp : runPre l num den = true) (h : ∀ k, k < l.length → runOk l num den (k + 1) = true) : runS l num den = (runL l num den l.length, 0) := by
  have : runAll l num den = true := by
    rw [runAll, List.all_eq_true]
    intro k hk
    exact h k (List.mem_range.1 hk)
  rw [runS, if_pos hp, if_pos this]
theorem runS_bad (l : List Int) (num den : Int) (k : Nat) (hk : k < l.length) (h : amt l[k] = false) : runS l num den = ([], 1) := by
  have : l.all amt = false := by
    rw [List.all_eq_false]
    exact ⟨l[k], List.getElem_mem hk, by simp [h]⟩
  rw [runS, if_neg]
  simp [runPre, this]
theorem runS_bad0 (l : List Int) (num den : Int) (h : pok 0 num den = false) : runS l num den = ([], 1) := by
  rw [runS, if_neg]
  simp [runPre, h]
theorem runPre_of (l : List Int) (num den : Int) (h : pok 0 num den = true) (ha : ∀ k (hk : k < l.length), amt l[k] = true) : runPre l num den = true := by
  rw [runPre, h, Bool.true_and, List.all_eq_true]
  intro x hx
  obtain ⟨k, hk, rfl⟩ := List.getElem_of_mem hx
  exact ha k hk
theorem sum_amt (l : List Int) (num den : Int) (k : Nat) (h : ∀ j, j < k → runOk l num den (j + 1) = true) : -1000000000000 ≤ lsum (l.take k) ∧ lsum (l.take k) ≤ 1000000000000 := by
  cases k with
  | zero => rw [lsum_zero]; omega
  | succ k =>
    have := h k (by omega)
    rw [runOk, Bool.and_eq_true] at this
    exact amt_true.1 this.1

/-- The running portions of the first k numbers are the first k ones. -/
theorem runP_take (l : List Int) (num den : Int) (k j : Nat) (hj : j ≤ k) : runP (l.take k) num den j = runP l num den j := by
  unfold runP; rw [List.take_take, Nat.min_eq_left hj]
theorem runOk_take (l : List Int) (num den : Int) (k j : Nat) (hj : j ≤ k) : runOk (l.take k) num den j = runOk l num den j := by
  unfold runOk; rw [List.take_take, Nat.min_eq_left hj]
theorem runL_take (l : List Int) (num den : Int) (k : Nat) : runL (l.take k) num den k = runL l num den k := by
  unfold runL
  apply List.map_congr_left
  intro j hj
  have := List.mem_range.1 hj
  rw [runP_take _ _ _ _ _ (by omega), runP_take _ _ _ _ _ (by omega)]
theorem runL_take2 (l : List Int) (num den : Int) (k n : Nat) (hk : k ≤ n) : (runL l num den n).take k = runL l num den k := by
  unfold runL
  rw [← List.map_take, List.take_range, Nat.min_eq_left hk]
theorem runS_prefix (l : List Int) (num den : Int) (k : Nat) (hk : k ≤ l.length) (h : (runS l num den).2 = 0) :
    runS l num den = (runL l num den l.length, 0) ∧ runS (l.take k) num den = (runL l num den k, 0) := by
  unfold runS at h
  split at h
  · rename_i hp
    split at h
    · rename_i ha
      refine ⟨by rw [runS, if_pos hp, if_pos ha], ?_⟩
      have hp2 : runPre (l.take k) num den = true := by
        rw [runPre, Bool.and_eq_true] at hp ⊢
        refine ⟨hp.1, ?_⟩
        rw [List.all_eq_true] at hp ⊢
        exact fun x hx => hp.2 x (List.mem_of_mem_take hx)
      have hl : (l.take k).length = k := by rw [List.length_take]; omega
      rw [runAll, List.all_eq_true] at ha
      have := runS_all (l.take k) num den hp2 fun j hj => by
        rw [hl] at hj
        rw [runOk_take _ _ _ _ _ (by omega)]
        exact ha j (List.mem_range.2 (by omega))
      rw [this, hl, runL_take]
    · simp at h
  · simp at h
end Go.Proofs.Ytppjjmjdiccloaa
