/- Valid holdings: the plain part. -/
import Derived.Test.YtkpdimbblcmnaaaHolSmall
import Derived.Test.YtkpdimbblcmnaaaHolDates
namespace Go.Proofs.Ytkpdimbblcmnaaa
open Go.RowKit
set_option linter.unusedSimpArgs false

theorem all_range_false' {n k : Nat} {f : Nat → Bool} (hk : k < n) (h : f k = false) : (List.range n).all f = false := by
  rw [List.all_eq_false]
  exact ⟨k, by simpa using hk, by simp [h]⟩
def keyH (x : Hol) : Hol := ⟨x.holder, x.entity, x.date, 0⟩
def okH (n : Int) (l : List Hol) (k : Nat) : Bool := match l[k]? with
  | none => true
  | some x => properB n x && !((l.take k).any (fun a => sameH a x))
theorem okH_at {n : Int} {l : List Hol} {k : Nat} (hk : k < l.length) : okH n l k = (properB n l[k] && !((l.take k).any (fun a => sameH a l[k]))) := by
  unfold okH; rw [List.getElem?_eq_getElem hk]
/-- No total is too great. -/
def sumsB (l : List Hol) : Bool := l.all (fun x => decide (totH l x.entity x.date ≤ 10000))
def hvalidB (n : Int) (l : List Hol) : Bool := decide (1 ≤ n) && decide (n ≤ 12) && decide (l.length ≤ 200) && (List.range l.length).all (okH n l) && sumsB l
theorem hvalidB_size {n : Int} {l : List Hol} (h : ¬ (1 ≤ n ∧ n ≤ 12 ∧ l.length ≤ 200)) : hvalidB n l = false := by
  unfold hvalidB
  by_cases h1 : 1 ≤ n
  · by_cases h2 : n ≤ 12
    · have h3 : ¬ l.length ≤ 200 := fun h3 => h ⟨h1, h2, h3⟩
      simp [h3]
    · simp [h2]
  · simp [h1]
theorem hvalidB_bad {n : Int} {l : List Hol} {k : Nat} (hk : k < l.length) (h : okH n l k = false) : hvalidB n l = false := by
  unfold hvalidB
  rw [all_range_false' hk h, Bool.and_false, Bool.false_and]
theorem hvalidB_rest {n : Int} {l : List Hol} (h1 : 1 ≤ n) (h2 : n ≤ 12) (h3 : l.length ≤ 200) (h : ∀ k < l.length, okH n l k = true) : hvalidB n l = sumsB l := by
  unfold hvalidB
  rw [decide_eq_true h1, decide_eq_true h2, decide_eq_true h3, List.all_eq_true.2 (fun k hk => h k (List.mem_range.1 hk))]
  rfl
theorem properB_true {n : Int} {x : Hol} (h : properB n x = true) : 0 ≤ x.holder ∧ x.holder < n ∧ 0 ≤ x.entity ∧ x.entity < n ∧ x.holder ≠ x.entity ∧ dateB x.date = true ∧ 0 ≤ x.share ∧ x.share ≤ 10000 := by
  simp only [properB, Bool.and_eq_true, decide_eq_true_eq, bne_iff_ne] at h
  obtain ⟨⟨⟨⟨⟨⟨⟨a, b⟩, c⟩, d⟩, e⟩, f⟩, g⟩, i⟩ := h
  exact ⟨a, b, c, d, e, f, g, i⟩
theorem okH_proper {n : Int} {l : List Hol} (h : ∀ k < l.length, okH n l k = true) : ∀ x ∈ l, properB n x = true := by
  intro x hx
  obtain ⟨k, hk, rfl⟩ := List.getElem_of_mem hx
  have := h k hk
  rw [okH_at hk, Bool.and_eq_true] at this
  exact this.1
theorem ShB.of {n : Int} {l : List Hol} (h : ∀ x ∈ l, properB n x = true) : ShB l := fun x hx => by
  have := properB_true (h x hx)
  omega
theorem curH_congr {d d' : Int} {l : List Hol} (h : ∀ x ∈ l, (x.date ≤ d ↔ x.date ≤ d')) : curH d l = curH d' l := by
  induction l using snoc_ind with
  | h0 => rfl
  | h1 l x ih =>
    rw [curH_snoc, curH_snoc, ih (fun y hy => h y (by simp [hy]))]
    have := h x (by simp)
    by_cases h1 : x.date ≤ d
    · rw [if_pos h1, if_pos (this.1 h1)]
    · rw [if_neg h1, if_neg (fun h2 => h1 (this.2 h2))]
theorem totH_congr {l : List Hol} {e d d' : Int} (h : ∀ x ∈ l, x.entity = e → (x.date ≤ d ↔ x.date ≤ d')) : totH l e d = totH l e d' := by
  unfold totH sumAt
  congr 1
  apply List.map_congr_left
  intro k _
  unfold atH
  rw [curH_congr]
  intro x hx
  unfold ofPair at hx
  rw [List.mem_filter] at hx
  refine h x hx.1 ?_
  have := hx.2
  unfold pairB at this
  rw [Bool.and_eq_true] at this
  simpa using this.2
theorem latest (l : List Hol) (e d : Int) : (∀ x ∈ l, x.entity = e → ¬ x.date ≤ d) ∨ ∃ y ∈ l, y.entity = e ∧ y.date ≤ d ∧ ∀ x ∈ l, x.entity = e → x.date ≤ d → x.date ≤ y.date := by
  induction l with
  | nil => exact .inl (fun x hx => by cases hx)
  | cons a l ih =>
    by_cases ha : a.entity = e ∧ a.date ≤ d
    · right
      rcases ih with ih | ⟨y, hy, h1, h2, h3⟩
      · refine ⟨a, by simp, ha.1, ha.2, fun x hx he hd => ?_⟩
        rcases List.mem_cons.1 hx with rfl | hx
        · exact Int.le_refl _
        · exact absurd hd (ih x hx he)
      · by_cases hc : y.date ≤ a.date
        · refine ⟨a, by simp, ha.1, ha.2, fun x hx he hd => ?_⟩
          rcases List.mem_cons.1 hx with rfl | hx
          · exact Int.le_refl _
          · have := h3 x hx he hd; omega
        · refine ⟨y, by simp [hy], h1, h2, fun x hx he hd => ?_⟩
          rcases List.mem_cons.1 hx with rfl | hx
          · omega
          · exact h3 x hx he hd
    · rcases ih with ih | ⟨y, hy, h1, h2, h3⟩
      · left
        intro x hx he hd
        rcases List.mem_cons.1 hx with rfl | hx
        · exact ha ⟨he, hd⟩
        · exact ih x hx he hd
      · right
        refine ⟨y, by simp [hy], h1, h2, fun x hx he hd => ?_⟩
        rcases List.mem_cons.1 hx with rfl | hx
        · exact absurd ⟨he, hd⟩ ha
        · exact h3 x hx he hd
theorem totH_none {l : List Hol} {e d : Int} (h : ∀ x ∈ l, x.entity = e → ¬ x.date ≤ d) : totH l e d = 0 := by
  have h0 : ∀ k, atH l k e d = 0 := fun k => by
    unfold atH
    cases hc : curH d (ofPair l k e) with
    | none => rfl
    | some m =>
      exfalso
      have h2 : ∀ (l2 : List Hol), (∀ x ∈ l2, ¬ x.date ≤ d) → curH d l2 = none := by
        intro l2
        induction l2 using snoc_ind with
        | h0 => intro _; rfl
        | h1 l2 x ih => intro hh; rw [curH_late (hh x (by simp)), ih (fun y hy => hh y (by simp [hy]))]
      rw [h2 _ (fun x hx => ?_)] at hc
      · cases hc
      · unfold ofPair at hx
        rw [List.mem_filter] at hx
        refine h x hx.1 ?_
        have := hx.2
        unfold pairB at this
        rw [Bool.and_eq_true] at this
        simpa using this.2
  unfold totH sumAt
  have : ∀ hs : List Int, (hs.map fun k => atH l k e d).sum = 0 := by
    intro hs
    induction hs with
    | nil => rfl
    | cons a hs ih => rw [List.map_cons, List.sum_cons, h0, ih]; rfl
  exact this _
/-- A total at any date is one at a holding's date, or 0. -/
theorem sums_all {l : List Hol} (h : sumsB l = true) (e d : Int) : totH l e d ≤ 10000 := by
  rcases latest l e d with h1 | ⟨y, hy, h1, h2, h3⟩
  · rw [totH_none h1]; decide
  · have h4 : totH l e d = totH l e y.date := totH_congr (fun x hx he => ⟨fun hd => h3 x hx he hd, fun hd => by omega⟩)
    rw [h4, ← h1]
    unfold sumsB at h
    rw [List.all_eq_true] at h
    simpa using h y hy
theorem sums_bad {l : List Hol} {e d : Int} (h : ¬ totH l e d ≤ 10000) : sumsB l = false := by
  rw [Bool.eq_false_iff]
  intro hs
  exact h (sums_all hs e d)
theorem sums_good {l : List Hol} (h : ∀ x ∈ l, totH l x.entity x.date ≤ 10000) : sumsB l = true := by
  unfold sumsB
  rw [List.all_eq_true]
  intro x hx
  simpa using h x hx
/-- The keys, as a map. -/
def seenH (l : List Hol) : Hol → Option Value := fun k => if l.any (fun x => sameH x k) && k.share == 0 then some (.bool true) else none
theorem seenH_nil : seenH [] = fun _ => none := by funext k; simp [seenH]
theorem seenH_get (l : List Hol) (x : Hol) : (seenH l (keyH x)).getD (.bool false) = .bool (l.any (fun a => sameH a x)) := by
  unfold seenH
  have : (l.any fun a => sameH a (keyH x)) = l.any (fun a => sameH a x) := rfl
  rw [this]
  cases l.any (fun a => sameH a x) <;> simp [keyH]
theorem seenH_snoc (l : List Hol) (x : Hol) : seenH (l ++ [x]) (keyH x) = some (.bool true) ∧ ∀ k, k ≠ keyH x → seenH (l ++ [x]) k = seenH l k := by
  refine ⟨by simp [seenH, sameH, keyH], fun k hk => ?_⟩
  unfold seenH
  have : (sameH x k && k.share == 0) = false := by
    rw [Bool.eq_false_iff]
    intro h
    apply hk
    obtain ⟨k0, k1, k2, k3⟩ := k
    simp only [sameH, Bool.and_eq_true, beq_iff_eq] at h
    obtain ⟨⟨⟨a, b⟩, c⟩, d⟩ := h
    simp [keyH, a, b, c, d]
  have h2 : ((l ++ [x]).any (fun a => sameH a k) && k.share == 0) = (l.any (fun a => sameH a k) && k.share == 0) := by
    rw [List.any_append]
    simp only [List.any_cons, List.any_nil, Bool.or_false]
    cases h3 : l.any (fun a => sameH a k) <;> simp_all
  rw [h2]
end Go.Proofs.Ytkpdimbblcmnaaa
