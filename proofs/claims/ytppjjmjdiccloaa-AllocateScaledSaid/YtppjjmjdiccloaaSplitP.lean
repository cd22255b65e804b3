/- The split of a total, plain: what 'whole' says, and how the parts come out of an order of the places. No program. -/
import Derived.Test.YtppjjmjdiccloaaRunP
import Derived.Test.YtppjjmjdiccloaaOrdP
namespace Go.Proofs.Ytppjjmjdiccloaa

def wgood (x : Int) : Bool := decide (0 ≤ x) && decide (x ≤ 1000000)
def wholeS (total : Int) (ws : List Int) : Int × Int :=
  if amt total = false ∨ ws.length < 1 ∨ 1000 < ws.length ∨ ws.all wgood = false then (0, 1)
  else if lsum ws = 0 then (0, 10) else (lsum ws, 0)
theorem all_snoc (l : List Int) (x : Int) : (l ++ [x]).all wgood = (l.all wgood && wgood x) := by simp
theorem lsum_good (l : List Int) (h : l.all wgood = true) : 0 ≤ lsum l ∧ lsum l ≤ 1000000 * l.length := by
  induction l with
  | nil => simp [lsum]
  | cons x l ih =>
    simp only [List.all_cons, Bool.and_eq_true, wgood, decide_eq_true_eq] at h
    have := ih (by simpa [wgood] using h.2)
    rw [lsum_cons, List.length_cons]
    omega
theorem lsum_take_bd (ws : List Int) (k : Nat) (h : (ws.take k).all wgood = true) (hn : ws.length ≤ 1000) : 0 ≤ lsum (ws.take k) ∧ lsum (ws.take k) ≤ 1000000000 := by
  have := lsum_good _ h
  have h3 := List.length_take_le' k ws
  omega
theorem whole_bad (total : Int) (ws : List Int) (k : Nat) (hk : k < ws.length) (h : wgood ws[k] = false) : wholeS total ws = (0, 1) := by
  rw [wholeS, if_pos]
  right; right; right
  rw [List.all_eq_false]
  exact ⟨ws[k], List.getElem_mem hk, by simp [h]⟩
/-- No error: what is known then. -/
structure WOk (total : Int) (ws : List Int) : Prop where
  ht : amt total = true
  h1 : 1 ≤ ws.length
  h2 : ws.length ≤ 1000
  hg : ws.all wgood = true
  hs : 1 ≤ lsum ws
  hs2 : lsum ws ≤ 1000000000
theorem wholeS_ok {total : Int} {ws : List Int} (h : (wholeS total ws).2 = 0) : WOk total ws ∧ wholeS total ws = (lsum ws, 0) := by
  unfold wholeS at *
  split at h
  · simp at h
  · rename_i hn
    rw [if_neg hn]
    split at h
    · simp at h
    · rename_i hz
      have hg : ws.all wgood = true := by
        cases hg : ws.all wgood
        · exact absurd (.inr (.inr (.inr hg))) hn
        · rfl
      have hb := lsum_good _ hg
      refine ⟨⟨?_, by omega, by omega, hg, by omega, by omega⟩, by rw [if_neg hz]⟩
      cases ha : amt total
      · exact absurd (.inl ha) hn
      · rfl
theorem WOk.w {total : Int} {ws : List Int} (h : WOk total ws) : ∀ x ∈ ws, 0 ≤ x ∧ x ≤ 1000000 := by
  intro x hx
  have := (List.all_eq_true.1 h.hg) x hx
  simpa [wgood] using this

/-- The share of place v, rounded down; the rest is rst (OrdW has it on Int places). -/
def bas (abs sum : Int) (ws : List Int) (v : Nat) : Int := abs * ws.getD v 0 / sum
def rsn (abs sum : Int) (ws : List Int) (v : Nat) : Int := abs * ws.getD v 0 % sum
def sumTo (f : Nat → Int) : Nat → Int | 0 => 0 | k + 1 => sumTo f k + f k
def lef (abs sum : Int) (ws : List Int) (k : Nat) : Int := abs - sumTo (bas abs sum ws) k

theorem sum_split (abs sum : Int) (ws : List Int) (k : Nat) (hk : k ≤ ws.length) : sum * sumTo (bas abs sum ws) k + sumTo (rsn abs sum ws) k = abs * lsum (ws.take k) := by
  induction k with
  | zero => simp [sumTo, lsum]
  | succ k ih =>
    have hk' : k < ws.length := by omega
    rw [lsum_take ws k hk', sumTo, sumTo, Int.mul_add, Int.mul_add, ← ih (by omega)]
    have e : ws.getD k 0 = ws[k] := by rw [List.getD_eq_getElem?_getD, List.getElem?_eq_getElem hk']; rfl
    have := Int.emod_add_mul_ediv (abs * ws[k]) sum
    unfold bas rsn
    rw [e]
    omega
theorem rsn_bd (abs sum : Int) (ws : List Int) (k : Nat) (hs : 1 ≤ sum) : 0 ≤ sumTo (rsn abs sum ws) k ∧ sumTo (rsn abs sum ws) k ≤ k * (sum - 1) := by
  induction k with
  | zero => simp [sumTo]
  | succ k ih =>
    have h0 := Int.emod_nonneg (abs * ws.getD k 0) (show sum ≠ 0 by omega)
    have h1 := Int.emod_lt_of_pos (abs * ws.getD k 0) (show 0 < sum by omega)
    have e : ((k + 1 : Nat) : Int) * (sum - 1) = k * (sum - 1) + (sum - 1) := by rw [Int.natCast_add, Int.add_mul]; simp
    rw [e, sumTo]
    unfold rsn at *
    omega
theorem sumTo_mono (f : Nat → Int) (h : ∀ i, 0 ≤ f i) (j k : Nat) (hjk : j ≤ k) : sumTo f j ≤ sumTo f k := by
  induction k with
  | zero => obtain rfl : j = 0 := by omega
            exact Int.le_refl _
  | succ k ih =>
    rcases Nat.lt_or_eq_of_le hjk with h' | h'
    · have := ih (by omega); have := h k; rw [sumTo]; omega
    · subst h'; exact Int.le_refl _
/-- What is left over is less than the number of places. -/
theorem lef_bd {abs : Int} {ws : List Int} (ha : 0 ≤ abs) (hw : ∀ x ∈ ws, 0 ≤ x ∧ x ≤ 1000000) (hs : 1 ≤ lsum ws) (h1 : 1 ≤ ws.length) : 0 ≤ lef abs (lsum ws) ws ws.length ∧ lef abs (lsum ws) ws ws.length < ws.length ∧ (∀ k, k ≤ ws.length → 0 ≤ lef abs (lsum ws) ws k ∧ lef abs (lsum ws) ws k ≤ abs) := by
  have e := sum_split abs (lsum ws) ws ws.length (Nat.le_refl _)
  rw [List.take_length] at e
  have hr := rsn_bd abs (lsum ws) ws ws.length hs
  have hb : ∀ i, 0 ≤ bas abs (lsum ws) ws i := fun i => by
    apply Int.ediv_nonneg _ (by omega)
    apply Int.mul_nonneg ha
    rw [List.getD_eq_getElem?_getD]
    rcases Nat.lt_or_ge i ws.length with h | h
    · rw [List.getElem?_eq_getElem h]; exact (hw _ (List.getElem_mem h)).1
    · rw [List.getElem?_eq_none h]; simp
  have e2 : lsum ws * lef abs (lsum ws) ws ws.length = sumTo (rsn abs (lsum ws) ws) ws.length := by
    unfold lef
    rw [Int.mul_sub, Int.mul_comm (lsum ws) abs]
    omega
  have p1 : 0 ≤ lef abs (lsum ws) ws ws.length := by
    apply Int.le_of_not_gt
    intro h
    have := Int.mul_neg_of_pos_of_neg (show 0 < lsum ws by omega) h
    omega
  refine ⟨p1, ?_, fun k hk => ?_⟩
  · apply Int.lt_of_not_ge
    intro h
    have h3 : lsum ws * (ws.length : Int) ≤ lsum ws * lef abs (lsum ws) ws ws.length := Int.mul_le_mul_of_nonneg_left h (by omega)
    have h4 : (ws.length : Int) * (lsum ws - 1) = lsum ws * ws.length - ws.length := by rw [Int.mul_sub, Int.mul_one, Int.mul_comm]
    omega
  · have m1 := sumTo_mono _ hb k ws.length hk
    have m0 := sumTo_mono _ hb 0 k (Nat.zero_le _)
    unfold lef at *
    simp only [sumTo] at m0
    omega

/-- Has place v been among the first t of the order? -/
def inFirst (d : Nat → Int) (t v : Nat) : Bool := (List.range t).any fun i => d i == (v : Int)
theorem inFirst_true {d : Nat → Int} {t v : Nat} : inFirst d t v = true ↔ ∃ i, i < t ∧ d i = v := by
  simp [inFirst]
def part (abs sum : Int) (ws : List Int) (d : Nat → Int) (t v : Nat) : Int := bas abs sum ws v + if inFirst d t v = true then 1 else 0
def sgn (total x : Int) : Int := if total < 0 then -x else x
def splitL (total : Int) (ws : List Int) (d : Nat → Int) : List Int :=
  (List.range ws.length).map fun v => sgn total (part (sgn total total) (lsum ws) ws d (lef (sgn total total) (lsum ws) ws ws.length).toNat v)

theorem Srt.inj {rs : Int → Int} {d : Nat → Int} {n : Nat} (h : Srt rs d 0 n) {i j : Nat} (hi : i < n) (hj : j < n) (e : d i = d j) : i = j := by
  rcases Nat.lt_trichotomy i j with h1 | h1 | h1
  · have := h i j (Nat.zero_le _) h1 hj; rw [e] at this; exact absurd this lss_irrefl
  · exact h1
  · have := h j i (Nat.zero_le _) h1 hi; rw [e] at this; exact absurd this lss_irrefl
theorem inFirst_succ (d : Nat → Int) (t v : Nat) : inFirst d (t + 1) v = (inFirst d t v || d t == (v : Int)) := by
  simp [inFirst, List.range_succ]
theorem part_zero (abs sum : Int) (ws : List Int) (d : Nat → Int) (v : Nat) : part abs sum ws d 0 v = bas abs sum ws v := by simp [part, inFirst]
theorem part_step {rs : Int → Int} (abs sum : Int) (ws : List Int) {d : Nat → Int} {n : Nat} (h : Srt rs d 0 n) {t v : Nat} (ht : t < n) (hv : d t = v) (k : Nat) :
    part abs sum ws d (t + 1) k = upd (part abs sum ws d t) v (part abs sum ws d t v + 1) k := by
  unfold upd
  by_cases hk : k = v
  · subst hk
    rw [if_pos rfl]
    have h0 : inFirst d t k = false := by
      cases hf : inFirst d t k
      · rfl
      · obtain ⟨i, hi, e⟩ := inFirst_true.1 hf
        have := h.inj (show i < n by omega) ht (by rw [e, hv])
        omega
    have h1 : inFirst d (t + 1) k = true := inFirst_true.2 ⟨t, by omega, hv⟩
    unfold part
    rw [h0, h1]
    simp
  · rw [if_neg hk]
    unfold part
    rw [inFirst_succ]
    have : (d t == (k : Int)) = false := by
      rw [beq_eq_false_iff_ne, hv]; omega
    rw [this, Bool.or_false]
theorem bas_bd {abs sum : Int} {ws : List Int} (h0 : 0 ≤ abs) (h1 : abs ≤ 1000000000000) (hs : 1 ≤ sum) (hw : ∀ x ∈ ws, 0 ≤ x ∧ x ≤ 1000000) (v : Nat) : 0 ≤ bas abs sum ws v ∧ bas abs sum ws v ≤ 1000000000000000000 := by
  have hv : 0 ≤ ws.getD v 0 ∧ ws.getD v 0 ≤ 1000000 := by
    rw [List.getD_eq_getElem?_getD]
    rcases Nat.lt_or_ge v ws.length with h | h
    · rw [List.getElem?_eq_getElem h]; exact hw _ (List.getElem_mem h)
    · rw [List.getElem?_eq_none h]; simp
  have hm : 0 ≤ abs * ws.getD v 0 := Int.mul_nonneg h0 hv.1
  have hm2 : abs * ws.getD v 0 ≤ 1000000000000000000 := by
    have := Int.mul_le_mul h1 hv.2 hv.1 (by omega)
    omega
  refine ⟨Int.ediv_nonneg hm (by omega), ?_⟩
  exact Int.le_trans (Int.ediv_le_self _ hm) hm2
theorem part_bd {abs sum : Int} {ws : List Int} (h0 : 0 ≤ abs) (h1 : abs ≤ 1000000000000) (hs : 1 ≤ sum) (hw : ∀ x ∈ ws, 0 ≤ x ∧ x ≤ 1000000) (d : Nat → Int) (t v : Nat) : 0 ≤ part abs sum ws d t v ∧ part abs sum ws d t v ≤ 1000000000000000001 := by
  have := bas_bd h0 h1 hs hw v
  unfold part
  split <;> omega

theorem splitL_length (total : Int) (ws : List Int) (d : Nat → Int) : (splitL total ws d).length = ws.length := by simp [splitL]
theorem splitL_pos {total : Int} {ws : List Int} {d : Nat → Int} {L : Nat} (hn : ¬ total < 0) (hL : lef total (lsum ws) ws ws.length = (L : Int)) : splitL total ws d = (List.range ws.length).map (part total (lsum ws) ws d L) := by
  have e : sgn total total = total := by rw [sgn, if_neg hn]
  unfold splitL
  rw [e, hL, Int.toNat_natCast]
  apply List.map_congr_left
  intro v _
  rw [sgn, if_neg hn]
theorem splitL_neg {total : Int} {ws : List Int} {d : Nat → Int} {L : Nat} (hn : total < 0) (hL : lef (-total) (lsum ws) ws ws.length = (L : Int)) : splitL total ws d = (List.range ws.length).map (fun v => -part (-total) (lsum ws) ws d L v) := by
  have e : sgn total total = -total := by rw [sgn, if_pos hn]
  unfold splitL
  rw [e, hL, Int.toNat_natCast]
  apply List.map_congr_left
  intro v _
  rw [sgn, if_pos hn]
end Go.Proofs.Ytppjjmjdiccloaa
