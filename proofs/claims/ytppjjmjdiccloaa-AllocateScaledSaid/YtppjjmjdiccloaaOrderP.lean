/- AllocateOrder, plain: how the parts of a split are ordered. No program. -/
import Derived.Test.YtppjjmjdiccloaaSplitP
import Derived.Test.YtppjjmjdiccloaaOrdW
namespace Go.Proofs.Ytppjjmjdiccloaa

theorem lef_sum (abs : Int) (ws : List Int) : lsum ws * lef abs (lsum ws) ws ws.length = sumTo (rsn abs (lsum ws) ws) ws.length := by
  have e := sum_split abs (lsum ws) ws ws.length (Nat.le_refl _)
  rw [List.take_length] at e
  unfold lef
  rw [Int.mul_sub, Int.mul_comm (lsum ws) abs]
  omega
theorem rst_nat (abs sum : Int) (ws : List Int) (v : Nat) : rst abs sum ws (v : Int) = rsn abs sum ws v := by
  unfold rst rsn; rw [Int.toNat_natCast]
/-- What comes before one of the first is one of the first. -/
theorem first_before {rs : Int → Int} {d : Nat → Int} {n t : Nat} (hs : Srt rs d 0 n) (hm : Same 0 n (fun k => (k : Int)) d) (_ht : t ≤ n) {u v : Nat} (hu : u < n) (hl : lss rs u v) (hv : inFirst d t v = true) : inFirst d t u = true := by
  obtain ⟨i, hi, ei⟩ := inFirst_true.1 hv
  obtain ⟨j, _, hj, ej⟩ := hm.onto u (Nat.zero_le _) hu
  rcases Nat.lt_trichotomy j i with h | h | h
  · exact inFirst_true.2 ⟨j, by omega, ej⟩
  · exact inFirst_true.2 ⟨j, by omega, ej⟩
  · have := hs i j (Nat.zero_le _) h hj
    rw [ei] at this
    rw [show d j = (u : Int) from ej] at this
    exact absurd (lss_trans hl this) lss_irrefl
theorem ind_one (d : Nat → Int) (t m : Nat) : sumTo (fun v => if (d t == (v : Int)) = true then 1 else 0) m ≤ 1 ∧ (d t ≥ m → sumTo (fun v => if (d t == (v : Int)) = true then 1 else 0) m = 0) := by
  induction m with
  | zero => simp [sumTo]
  | succ m ih =>
    rw [sumTo]
    by_cases h : d t = (m : Int)
    · have := ih.2 (by omega)
      rw [this, if_pos (by simp [h])]
      constructor
      · omega
      · intro h2; omega
    · rw [if_neg (by simp [h])]
      constructor
      · omega
      · intro h2; rw [ih.2 (by omega)]; rfl
theorem ind_all (d : Nat → Int) (t m : Nat) : sumTo (fun v => if inFirst d t v = true then 1 else 0) m ≤ t := by
  induction t with
  | zero =>
    have h : ∀ m, sumTo (fun v => if inFirst d 0 v = true then 1 else 0) m = 0 := by
      intro m
      induction m with
      | zero => rfl
      | succ m ih => rw [sumTo, ih, if_neg (by simp [inFirst])]; rfl
    rw [h]; omega
  | succ t ih =>
    have h1 := (ind_one d t m).1
    have h : ∀ m, sumTo (fun v => if inFirst d (t + 1) v = true then 1 else 0) m ≤ sumTo (fun v => if inFirst d t v = true then 1 else 0) m + sumTo (fun v => if (d t == (v : Int)) = true then 1 else 0) m := by
      intro m
      induction m with
      | zero => simp [sumTo]
      | succ m ih2 =>
        rw [sumTo, sumTo, sumTo, inFirst_succ]
        have hb : ∀ p q : Bool, (if (p || q) = true then (1 : Int) else 0) ≤ (if p = true then 1 else 0) + (if q = true then 1 else 0) := by decide
        have := hb (inFirst d t m) (d t == (m : Int))
        omega
    have := h m
    omega
theorem part_zero_weight {abs : Int} {ws : List Int} {d : Nat → Int} {L : Nat} (hs1 : 1 ≤ lsum ws) (hs : Srt (rst abs (lsum ws) ws) d 0 ws.length) (hm : Same 0 ws.length (fun k => (k : Int)) d)
    (hL : lef abs (lsum ws) ws ws.length = (L : Int)) {v : Nat} (_hv : v < ws.length) (h0 : ws.getD v 0 = 0) : part abs (lsum ws) ws d L v = 0 := by
  have hb : bas abs (lsum ws) ws v = 0 := by unfold bas; rw [h0]; simp
  have hr : rsn abs (lsum ws) ws v = 0 := by unfold rsn; rw [h0]; simp
  unfold part
  rw [hb]
  by_cases hf : inFirst d L v = true
  · exfalso
    obtain ⟨i, hi, ei⟩ := inFirst_true.1 hf
    have hle : ∀ m, m ≤ ws.length → sumTo (rsn abs (lsum ws) ws) m ≤ (lsum ws - 1) * sumTo (fun v => if inFirst d i v = true then 1 else 0) m := by
      intro m
      induction m with
      | zero => intro _; simp [sumTo]
      | succ m ih =>
        intro hml
        have h1 := ih (by omega)
        rw [sumTo, sumTo, Int.mul_add]
        have hlt := Int.emod_lt_of_pos (abs * ws.getD m 0) (show 0 < lsum ws by omega)
        have hnn := Int.emod_nonneg (abs * ws.getD m 0) (show lsum ws ≠ 0 by omega)
        by_cases hfm : inFirst d i m = true
        · rw [if_pos hfm]
          unfold rsn at *
          omega
        · rw [if_neg hfm]
          have : rsn abs (lsum ws) ws m = 0 := by
            obtain ⟨j, _, hj, ej⟩ := hm.onto m (Nat.zero_le _) (by omega)
            have hij : i ≤ j := by
              apply Nat.le_of_not_lt
              intro h
              exact hfm (inFirst_true.2 ⟨j, h, ej⟩)
            rcases Nat.lt_or_eq_of_le hij with h' | h'
            · have := hs i j (Nat.zero_le _) h' hj
              rw [ei, show d j = (m : Int) from ej] at this
              unfold lss at this
              rw [rst_nat, rst_nat, hr] at this
              unfold rsn at *
              omega
            · subst h'
              have : (m : Int) = (v : Int) := by rw [← ei]; exact ej.symm
              have : m = v := by omega
              rw [this]; exact hr
          rw [this]; omega
    have h1 := hle ws.length (Nat.le_refl _)
    rw [← lef_sum, hL] at h1
    have h2 : (lsum ws - 1) * sumTo (fun v => if inFirst d i v = true then 1 else 0) ws.length ≤ (lsum ws - 1) * i := Int.mul_le_mul_of_nonneg_left (ind_all d i _) (by omega)
    have h3 : (lsum ws - 1) * (i : Int) ≤ (lsum ws - 1) * L := Int.mul_le_mul_of_nonneg_left (by omega) (by omega)
    have h4 : (lsum ws - 1) * (L : Int) = lsum ws * L - L := by rw [Int.sub_mul, Int.one_mul]
    omega
  · rw [if_neg hf]; rfl
theorem part_more {abs : Int} {ws : List Int} {d : Nat → Int} {L : Nat} (ha : 0 ≤ abs) (hs1 : 1 ≤ lsum ws) (hs : Srt (rst abs (lsum ws) ws) d 0 ws.length) (hm : Same 0 ws.length (fun k => (k : Int)) d)
    (hL : lef abs (lsum ws) ws ws.length = (L : Int)) (hn : L ≤ ws.length) {u v : Nat} (hu : u < ws.length) (hw : ws.getD v 0 < ws.getD u 0) : part abs (lsum ws) ws d L v ≤ part abs (lsum ws) ws d L u := by
  rcases Int.lt_or_eq_of_le ha with h0 | h0
  · have hab : abs * ws.getD v 0 < abs * ws.getD u 0 := Int.mul_lt_mul_of_pos_left hw h0
    have hbs : bas abs (lsum ws) ws v ≤ bas abs (lsum ws) ws u := Int.ediv_le_ediv (by omega) (by omega)
    by_cases hf : inFirst d L v = true
    · rcases Int.lt_or_eq_of_le hbs with h' | h'
      · unfold part; split <;> split <;> omega
      · have e1 := Int.emod_add_mul_ediv (abs * ws.getD v 0) (lsum ws)
        have e2 := Int.emod_add_mul_ediv (abs * ws.getD u 0) (lsum ws)
        have hl : lss (rst abs (lsum ws) ws) u v := by
          left
          rw [rst_nat, rst_nat]
          unfold rsn bas at *
          rw [h'] at e1
          omega
        unfold part
        rw [if_pos hf, if_pos (first_before hs hm hn hu hl hf)]
        omega
    · unfold part; rw [if_neg hf]; split <;> omega
  · subst h0
    have hb : ∀ v, bas 0 (lsum ws) ws v = 0 := fun v => by unfold bas; simp
    have hL0 : L = 0 := by
      have : sumTo (bas 0 (lsum ws) ws) ws.length = 0 := by
        generalize ws.length = m
        induction m with
        | zero => rfl
        | succ m ih => rw [sumTo, ih, hb]; rfl
      unfold lef at hL
      omega
    subst hL0
    rw [part_zero, part_zero, hb, hb]
    exact Int.le_refl _
theorem part_same {abs : Int} {ws : List Int} {d : Nat → Int} {L : Nat} (hs : Srt (rst abs (lsum ws) ws) d 0 ws.length) (hm : Same 0 ws.length (fun k => (k : Int)) d)
    (hn : L ≤ ws.length) {u v : Nat} (huv : u < v) (hv : v < ws.length) (hw : ws.getD u 0 = ws.getD v 0) : part abs (lsum ws) ws d L u - part abs (lsum ws) ws d L v = 0 ∨ part abs (lsum ws) ws d L u - part abs (lsum ws) ws d L v = 1 := by
  have hb : bas abs (lsum ws) ws u = bas abs (lsum ws) ws v := by unfold bas; rw [hw]
  have hl : lss (rst abs (lsum ws) ws) u v := by
    right
    rw [rst_nat, rst_nat]
    unfold rsn
    rw [hw]
    exact ⟨rfl, by omega⟩
  unfold part
  rw [hb]
  by_cases hf : inFirst d L v = true
  · rw [if_pos hf, if_pos (first_before hs hm hn (by omega) hl hf)]; omega
  · rw [if_neg hf]; split <;> omega

/-- The order of the parts of a total that is not negative. -/
structure PartOrder (ws xs : List Int) : Prop where
  len : xs.length = ws.length
  more : ∀ i k (h1 : i < ws.length) (h2 : k < ws.length) (h3 : i < xs.length) (h4 : k < xs.length), ws[k] < ws[i] → xs[k] ≤ xs[i]
  same : ∀ i k (h1 : i < ws.length) (h2 : k < ws.length) (h3 : i < xs.length) (h4 : k < xs.length), i < k → ws[i] = ws[k] → xs[i] - xs[k] = 0 ∨ xs[i] - xs[k] = 1
  zero : ∀ i (h1 : i < ws.length) (h3 : i < xs.length), ws[i] = 0 → xs[i] = 0
  bd : ∀ i (h3 : i < xs.length), 0 ≤ xs[i] ∧ xs[i] ≤ 1000000000000000001
theorem split_order {total : Int} {ws : List Int} {d : Nat → Int} (hn : ¬ total < 0) (hW : WOk total ws) (hs : Srt (rst total (lsum ws) ws) d 0 ws.length) (hm : Same 0 ws.length (fun k => (k : Int)) d) : PartOrder ws (splitL total ws d) := by
  have hB := lef_bd (abs := total) (ws := ws) (by omega) hW.w hW.hs hW.h1
  obtain ⟨L, hL⟩ := Int.eq_ofNat_of_zero_le hB.1
  have hLn : L ≤ ws.length := by have := hB.2.1; omega
  have hg : ∀ i (h : i < ws.length), ws.getD i 0 = ws[i] := fun i h => by rw [List.getD_eq_getElem?_getD, List.getElem?_eq_getElem h]; rfl
  rw [splitL_pos hn hL]
  refine ⟨by simp, fun i k h1 h2 h3 h4 h => ?_, fun i k h1 h2 h3 h4 hik h => ?_, fun i h1 h3 h => ?_, fun i h3 => ?_⟩
  · simp only [List.getElem_map, List.getElem_range]
    exact part_more (by omega) hW.hs hs hm hL hLn h1 (by rw [hg _ h1, hg _ h2]; exact h)
  · simp only [List.getElem_map, List.getElem_range]
    exact part_same hs hm hLn hik h2 (by rw [hg _ h1, hg _ h2]; exact h)
  · simp only [List.getElem_map, List.getElem_range]
    exact part_zero_weight hW.hs hs hm hL h1 (by rw [hg _ h1]; exact h)
  · simp only [List.getElem_map, List.getElem_range]
    exact part_bd (by omega) (amt_true.1 hW.ht).2 hW.hs hW.w d L i
end Go.Proofs.Ytppjjmjdiccloaa
