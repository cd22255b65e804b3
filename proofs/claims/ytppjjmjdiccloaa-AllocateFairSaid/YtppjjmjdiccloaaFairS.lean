/- Fair, plain: a split is fair. No program. -/
import Derived.Test.YtppjjmjdiccloaaFairP
namespace Go.Proofs.Ytppjjmjdiccloaa

theorem first_rest {abs : Int} {ws : List Int} {d : Nat → Int} {L : Nat} (hs1 : 1 ≤ lsum ws) (hs : Srt (rst abs (lsum ws) ws) d 0 ws.length) (hm : Same 0 ws.length (fun k => (k : Int)) d)
    (hL : lef abs (lsum ws) ws ws.length = (L : Int)) {v : Nat} (hf : inFirst d L v = true) : rsn abs (lsum ws) ws v ≠ 0 := by
  intro hr
  obtain ⟨i, hi, ei⟩ := inFirst_true.1 hf
  have hle : ∀ m, m ≤ ws.length → sumTo (rsn abs (lsum ws) ws) m ≤ (lsum ws - 1) * sumTo (fun v => if inFirst d i v = true then 1 else 0) m := by
    intro m
    induction m with
    | zero => intro _; simp [sumTo]
    | succ m ih =>
      intro hml
      have h1 := ih (by omega)
      rw [sumTo, sumTo, Int.mul_add]
      have hlt := Int.emod_lt_of_pos (abs * ws.getD m 0) (show 0 < lsum ws by omega)
      have hnn := Int.emod_nonneg (abs * ws.getD m 0) (show lsum ws ≠ 0 by omega)
      by_cases hfm : inFirst d i m = true
      · rw [if_pos hfm]
        unfold rsn at *
        omega
      · rw [if_neg hfm]
        have : rsn abs (lsum ws) ws m = 0 := by
          obtain ⟨j, _, hj, ej⟩ := hm.onto m (Nat.zero_le _) (by omega)
          have hij : i ≤ j := by
            apply Nat.le_of_not_lt
            intro h
            exact hfm (inFirst_true.2 ⟨j, h, ej⟩)
          rcases Nat.lt_or_eq_of_le hij with h' | h'
          · have := hs i j (Nat.zero_le _) h' hj
            rw [ei, show d j = (m : Int) from ej] at this
            unfold lss at this
            rw [rst_nat, rst_nat, hr] at this
            unfold rsn at *
            omega
          · subst h'
            have : (m : Int) = (v : Int) := by rw [← ei]; exact ej.symm
            have : m = v := by omega
            rw [this]; exact hr
        rw [this]; omega
  have h1 := hle ws.length (Nat.le_refl _)
  rw [← lef_sum, hL] at h1
  have h2 : (lsum ws - 1) * sumTo (fun v => if inFirst d i v = true then 1 else 0) ws.length ≤ (lsum ws - 1) * i := Int.mul_le_mul_of_nonneg_left (ind_all d i _) (by omega)
  have h3 : (lsum ws - 1) * (i : Int) ≤ (lsum ws - 1) * L := Int.mul_le_mul_of_nonneg_left (by omega) (by omega)
  have h4 : (lsum ws - 1) * (L : Int) = lsum ws * L - L := by rw [Int.sub_mul, Int.one_mul]
  omega
theorem ind_at (d : Nat → Int) (t m : Nat) (h0 : 0 ≤ d t) (h : d t < m) : sumTo (fun v => if (d t == (v : Int)) = true then 1 else 0) m = 1 := by
  induction m with
  | zero => omega
  | succ m ih =>
    rw [sumTo]
    by_cases h1 : d t = (m : Int)
    · rw [(ind_one d t m).2 (by omega), if_pos (by simp [h1])]; rfl
    · rw [if_neg (by simp [h1]), ih (by omega)]; rfl
theorem ind_eq {rs : Int → Int} {d : Nat → Int} {n : Nat} (hs : Srt rs d 0 n) (hm : Same 0 n (fun k => (k : Int)) d) (t : Nat) (ht : t ≤ n) : sumTo (fun v => if inFirst d t v = true then 1 else 0) n = t := by
  induction t with
  | zero =>
    generalize n = m
    induction m with
    | zero => rfl
    | succ m ih => rw [sumTo, ih, if_neg (by simp [inFirst])]; rfl
  | succ t ih =>
    have h1 := ih (by omega)
    obtain ⟨u, _, hu, eu⟩ := hm.from_ t (Nat.zero_le _) (show t < n by omega)
    have eu' : d t = (u : Int) := eu
    have h2 := ind_at d t n (by omega) (by omega)
    have h : ∀ m, m ≤ n → sumTo (fun v => if inFirst d (t + 1) v = true then 1 else 0) m = sumTo (fun v => if inFirst d t v = true then 1 else 0) m + sumTo (fun v => if (d t == (v : Int)) = true then 1 else 0) m := by
      intro m
      induction m with
      | zero => intro _; simp [sumTo]
      | succ m ih2 =>
        intro hmn
        rw [sumTo, sumTo, sumTo, inFirst_succ, ih2 (by omega)]
        have hx : ¬ (inFirst d t m = true ∧ (d t == (m : Int)) = true) := by
          rintro ⟨a, b⟩
          obtain ⟨i, hi, ei⟩ := inFirst_true.1 a
          have := hs.inj (show i < n by omega) (show t < n by omega) (by rw [ei]; exact (beq_iff_eq.1 b).symm)
          omega
        have hb : ∀ p q : Bool, ¬ (p = true ∧ q = true) → (if (p || q) = true then (1 : Int) else 0) = (if p = true then 1 else 0) + (if q = true then 1 else 0) := by decide
        have := hb _ _ hx
        omega
    have := h n (Nat.le_refl _)
    omega
theorem sum_range (f : Nat → Int) (n : Nat) : lsum ((List.range n).map f) = sumTo f n := by
  induction n with
  | zero => rfl
  | succ n ih => rw [List.range_succ, List.map_append, List.map_cons, List.map_nil, lsum_snoc, ih, sumTo]
theorem sumTo_add (f g : Nat → Int) (n : Nat) : sumTo (fun v => f v + g v) n = sumTo f n + sumTo g n := by
  induction n with
  | zero => rfl
  | succ n ih => rw [sumTo, sumTo, sumTo, ih]; omega
theorem sumTo_sgn (total : Int) (f : Nat → Int) (n : Nat) : sumTo (fun v => sgn total (f v)) n = sgn total (sumTo f n) := by
  induction n with
  | zero => unfold sgn; simp [sumTo]
  | succ n ih => rw [sumTo, sumTo, ih, sgn_add]
/-- A split is fair. -/
theorem fair_split {total : Int} {ws : List Int} {d : Nat → Int} (he : (wholeS total ws).2 = 0) (hs : Srt (rst (sgn total total) (lsum ws) ws) d 0 ws.length) (hm : Same 0 ws.length (fun k => (k : Int)) d) : fairS total ws (splitL total ws d) = true := by
  have hW := (wholeS_ok he).1
  have hB := lef_bd (abs := sgn total total) (ws := ws) (by unfold sgn; split <;> omega) hW.w hW.hs hW.h1
  obtain ⟨L, hL⟩ := Int.eq_ofNat_of_zero_le hB.1
  have hLn : L ≤ ws.length := by have := hB.2.1; omega
  unfold fairS
  rw [decide_eq_true_eq]
  refine ⟨he, splitL_length _ _ _, fun v hv => ?_, ?_⟩
  · rw [splitL_length] at hv
    have e : (splitL total ws d).getD v 0 = sgn total (part (sgn total total) (lsum ws) ws d L v) := by
      rw [List.getD_eq_getElem?_getD, List.getElem?_eq_getElem (by rw [splitL_length]; exact hv)]
      simp only [splitL, Option.getD_some, List.getElem_map, List.getElem_range]
      rw [hL, Int.toNat_natCast]
    rw [e]
    unfold fok part
    by_cases hf : inFirst d L v = true
    · right
      rw [if_pos hf]
      exact ⟨first_rest hW.hs hs hm hL hf, rfl⟩
    · left
      rw [if_neg hf, Int.add_zero]
  · unfold splitL
    rw [hL, Int.toNat_natCast, sum_range, sumTo_sgn]
    have : sumTo (part (sgn total total) (lsum ws) ws d L) ws.length = sgn total total := by
      show sumTo (fun v => bas (sgn total total) (lsum ws) ws v + if inFirst d L v = true then 1 else 0) ws.length = _
      rw [sumTo_add, ind_eq hs hm L hLn]
      unfold lef at hL
      show sumTo (bas (sgn total total) (lsum ws) ws) ws.length + _ = _
      omega
    rw [this, sgn_sgn]
end Go.Proofs.Ytppjjmjdiccloaa
