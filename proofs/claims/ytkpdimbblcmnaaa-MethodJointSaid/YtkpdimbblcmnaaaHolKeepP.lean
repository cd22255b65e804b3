/- What Set keeps: the plain part. -/
import Derived.Test.YtkpdimbblcmnaaaHolRSetP
namespace Go.Proofs.Ytkpdimbblcmnaaa
set_option linter.unusedSimpArgs false
set_option linter.unusedVariables false
theorem curH_none {d : Int} {l : List Hol} (h : curH d l = none) : ∀ y ∈ l, ¬ y.date ≤ d := by
  induction l using snoc_ind with
  | h0 => simp
  | h1 l x ih =>
    by_cases hx : x.date ≤ d
    · rw [curH_snoc, if_pos hx] at h
      split at h <;> cases h
    · rw [curH_late hx] at h
      intro y hy
      rcases List.mem_append.1 hy with hy | hy
      · exact ih h y hy
      · simp only [List.mem_singleton] at hy
        subst hy
        exact hx
theorem curH_max {d : Int} {l : List Hol} {m : Hol} (h : curH d l = some m) : m.date ≤ d ∧ ∀ y ∈ l, y.date ≤ d → y.date ≤ m.date := by
  induction l using snoc_ind generalizing m with
  | h0 => cases h
  | h1 l x ih =>
    have key : ∀ (c : Hol), c.date ≤ d → x.date ≤ c.date ∨ ¬ x.date ≤ d → (∀ y ∈ l, y.date ≤ d → y.date ≤ c.date) → c.date ≤ d ∧ ∀ y ∈ l ++ [x], y.date ≤ d → y.date ≤ c.date := fun c hc hx hl => by
      refine ⟨hc, fun y hy hd => ?_⟩
      rcases List.mem_append.1 hy with hy | hy
      · exact hl y hy hd
      · simp only [List.mem_singleton] at hy
        subst hy
        rcases hx with hx | hx
        · exact hx
        · exact absurd hd hx
    by_cases hx : x.date ≤ d
    · cases hc : curH d l with
      | none =>
        rw [curH_first hx hc] at h
        cases h
        exact key x hx (.inl (Int.le_refl _)) fun y hy hd => absurd hd (curH_none hc y hy)
      | some c =>
        obtain ⟨h1, h2⟩ := ih hc
        by_cases hm : c.date < x.date
        · rw [curH_new hx hc hm] at h
          cases h
          exact key x hx (.inl (Int.le_refl _)) fun y hy hd => by have := h2 y hy hd; omega
        · rw [curH_old hx hc hm] at h
          cases h
          exact key _ h1 (.inl (by omega)) h2
    · rw [curH_late hx] at h
      obtain ⟨h1, h2⟩ := ih h
      exact key m h1 (.inr hx) h2
theorem curH_at {l : List Hol} {x : Hol} (hx : x ∈ l) (hu : ∀ y ∈ l, y.date = x.date → y = x) : curH x.date l = some x := by
  cases hc : curH x.date l with
  | none => exact absurd (Int.le_refl _) (curH_none hc x hx)
  | some m =>
    obtain ⟨h1, h2⟩ := curH_max hc
    have h3 := h2 x hx (Int.le_refl _)
    rw [hu m (curH_mem hc) (by omega)]
theorem valid_uniq {n : Int} {l : List Hol} (hv : hvalidB n l = true) {x y : Hol} (hx : x ∈ l) (hy : y ∈ l) (hs : sameH x y = true) : x = y := by
  obtain ⟨i, hi, rfl⟩ := List.getElem_of_mem hx
  obtain ⟨k, hk, rfl⟩ := List.getElem_of_mem hy
  rcases Nat.lt_trichotomy i k with h | rfl | h
  · rw [hvalidB_ne hv hk h] at hs; cases hs
  · rfl
  · have h1 := hvalidB_ne hv hi h
    have h2 : sameH l[k] l[i] = true := by
      simp only [sameH, Bool.and_eq_true, beq_iff_eq] at *
      omega
    rw [h1] at h2; cases h2
theorem sameH_refl (h : Hol) : sameH h h = true := by simp [sameH]
theorem putH_mem (l : List Hol) (h : Hol) : h ∈ putH l h := by
  unfold putH
  cases hi : idxH l h with
  | none => simp
  | some i => exact List.mem_set (idxH_spec hi).1 h
theorem atH_put {n : Int} {l : List Hol} {h : Hol} (hv : hvalidB n (putH l h) = true) : atH (putH l h) h.holder h.entity h.date = h.share := by
  unfold atH
  rw [curH_at (x := h)]
  · rfl
  · exact List.mem_filter.2 ⟨putH_mem l h, by simp [pairB]⟩
  · intro y hy hd
    obtain ⟨h1, h2⟩ := List.mem_filter.1 hy
    simp only [pairB, Bool.and_eq_true, beq_iff_eq] at h2
    exact valid_uniq hv h1 (putH_mem l h) (by simp [sameH, h2.1, h2.2, hd])
theorem putH_again {n : Int} {l : List Hol} {h : Hol} (hv : hvalidB n (putH l h) = true) : putH (putH l h) h = putH l h := by
  obtain ⟨k, hk, e⟩ := List.getElem_of_mem (putH_mem l h)
  cases hi : idxH (putH l h) h with
  | none =>
    unfold idxH at hi
    rw [List.findIdx?_eq_none_iff] at hi
    have := hi h (putH_mem l h)
    rw [sameH_refl] at this; cases this
  | some i =>
    obtain ⟨hl, hs⟩ := idxH_spec hi
    have e2 : (putH l h)[i] = h := valid_uniq hv (List.getElem_mem hl) (putH_mem l h) hs
    show (match idxH (putH l h) h with | none => putH l h ++ [h] | some i => (putH l h).set i h) = putH l h
    rw [hi]
    show (putH l h).set i h = putH l h
    conv => lhs; arg 3; rw [← e2]
    exact List.set_getElem_self hl
theorem filter_set_same {p : Hol → Bool} {x : Hol} : ∀ {l : List Hol} {i : Nat} (hi : i < l.length), p l[i] = false → p x = false → (l.set i x).filter p = l.filter p
  | [], i, hi, _, _ => absurd hi (Nat.not_lt_zero _)
  | y :: l, 0, _, h1, h2 => by
    have h1 : p y = false := h1
    simp [h1, h2]
  | y :: l, i + 1, hi, h1, h2 => by
    have := filter_set_same (l := l) (i := i) (by simpa using hi) h1 h2
    rw [List.set_cons_succ, List.filter_cons, List.filter_cons, this]
theorem atH_filter (l : List Hol) (hh e d : Int) : atH l hh e d = shareOf (curH d (l.filter fun x => decide (x.date ≤ d) && pairB hh e x)) := by
  have hs : ∀ m : List Hol, curH d (m.filter fun x => decide (x.date ≤ d)) = curH d m := fun m => by
    induction m using snoc_ind with
    | h0 => rfl
    | h1 m x ih =>
      by_cases h : x.date ≤ d
      · rw [List.filter_append, show [x].filter (fun x => decide (x.date ≤ d)) = [x] by simp [h], curH_snoc, curH_snoc, ih]
      · rw [List.filter_append, show [x].filter (fun x => decide (x.date ≤ d)) = [] by simp [h], List.append_nil, curH_late h, ih]
  unfold atH ofPair
  rw [← hs, List.filter_filter]
theorem atH_other {l : List Hol} {h : Hol} {hh e d : Int} (hne : ¬ (h.holder = hh ∧ h.entity = e ∧ h.date ≤ d)) : atH (putH l h) hh e d = atH l hh e d := by
  rw [atH_filter, atH_filter]
  have hp : (decide (h.date ≤ d) && pairB hh e h) = false := by
    cases hb : (decide (h.date ≤ d) && pairB hh e h) with
    | false => rfl
    | true =>
      simp only [pairB, Bool.and_eq_true, beq_iff_eq, decide_eq_true_eq] at hb
      exact absurd ⟨hb.2.1, hb.2.2, hb.1⟩ hne
  congr 2
  unfold putH
  cases hi : idxH l h with
  | none =>
    show (l ++ [h]).filter _ = _
    rw [List.filter_append, List.filter_cons_of_neg (by simpa using hp)]
    simp
  | some i =>
    obtain ⟨hl, hs⟩ := idxH_spec hi
    show (l.set i h).filter _ = _
    refine filter_set_same hl ?_ hp
    simp only [sameH, Bool.and_eq_true, beq_iff_eq] at hs
    simp only [pairB, hs.1.1, hs.1.2, hs.2] at hp ⊢
    exact hp
end Go.Proofs.Ytkpdimbblcmnaaa
