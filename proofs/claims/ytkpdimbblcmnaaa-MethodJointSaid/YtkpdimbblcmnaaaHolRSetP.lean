/- The reference's Set of holdings: the plain part of its loop. -/
import Derived.Test.YtkpdimbblcmnaaaHolSetP
namespace Go.Proofs.Ytkpdimbblcmnaaa
set_option linter.unusedSimpArgs false
set_option linter.unusedVariables false
/-- The list behind k rounds, and whether one has been found. -/
def curL (l : List Hol) (h : Hol) (k : Nat) : List Hol := match idxH l h with
  | none => l
  | some i => if i < k then l.set i h else l
def fnd (l : List Hol) (h : Hol) (k : Nat) : Bool := match idxH l h with
  | none => false
  | some i => decide (i < k)
theorem curL_len (l : List Hol) (h : Hol) (k : Nat) : (curL l h k).length = l.length := by
  unfold curL
  split
  · rfl
  · split <;> simp
theorem curL_zero (l : List Hol) (h : Hol) : curL l h 0 = l := by
  unfold curL
  split
  · rfl
  · rw [if_neg (Nat.not_lt_zero _)]
theorem fnd_zero (l : List Hol) (h : Hol) : fnd l h 0 = false := by
  unfold fnd
  split
  · rfl
  · simp
theorem curL_get {l : List Hol} {h : Hol} {k : Nat} (hk : k < l.length) : (curL l h k)[k]'(by rw [curL_len]; exact hk) = l[k] := by
  have : (curL l h k)[k]? = l[k]? := by
    unfold curL
    split
    · rfl
    · split
      · rw [List.getElem?_set_ne (by omega)]
      · rfl
  rw [List.getElem?_eq_getElem (by rw [curL_len]; exact hk), List.getElem?_eq_getElem hk] at this
  exact Option.some.inj this
theorem idxH_spec {l : List Hol} {h : Hol} {i : Nat} (hi : idxH l h = some i) : ∃ hl : i < l.length, sameH l[i] h = true := by
  unfold idxH at hi
  rw [List.findIdx?_eq_some_iff_getElem] at hi
  exact ⟨hi.1, hi.2.1⟩
theorem curL_no {l : List Hol} {h : Hol} {k : Nat} (hk : k < l.length) (hs : sameH l[k] h = false) : curL l h (k + 1) = curL l h k ∧ fnd l h (k + 1) = fnd l h k := by
  have hne : idxH l h ≠ some k := fun e => by
    obtain ⟨_, h2⟩ := idxH_spec e
    rw [hs] at h2; cases h2
  unfold curL fnd
  cases hi : idxH l h with
  | none => exact ⟨rfl, rfl⟩
  | some i =>
    have : i ≠ k := fun e => hne (e ▸ hi)
    have e1 : (i < k + 1) = (i < k) := by apply propext; omega
    simp only [e1, and_self]
theorem sameH_both {a b c : Hol} (h1 : sameH a c = true) (h2 : sameH b c = true) : sameH a b = true := by
  simp only [sameH, Bool.and_eq_true, beq_iff_eq] at *
  omega
theorem hvalidB_ok {n : Int} {l : List Hol} (h : hvalidB n l = true) {k : Nat} (hk : k < l.length) : okH n l k = true := by
  simp only [hvalidB, Bool.and_eq_true] at h
  exact List.all_eq_true.1 h.1.2 k (List.mem_range.2 hk)
theorem hvalidB_ne {n : Int} {l : List Hol} (h : hvalidB n l = true) {i k : Nat} (hk : k < l.length) (hi : i < k) : sameH (l[i]'(by omega)) l[k] = false := by
  have h1 := hvalidB_ok h hk
  rw [okH_at hk] at h1
  simp only [Bool.and_eq_true, Bool.not_eq_true', List.any_eq_false] at h1
  have := h1.2 (l[i]'(by omega)) (by
    rw [List.mem_iff_getElem]
    exact ⟨i, by rw [List.length_take]; omega, by rw [List.getElem_take]⟩)
  simpa using this
theorem curL_yes {n : Int} {l : List Hol} {h : Hol} {k : Nat} (hv : hvalidB n l = true) (hk : k < l.length) (hs : sameH l[k] h = true) : curL l h (k + 1) = (curL l h k).set k h ∧ fnd l h (k + 1) = true := by
  have hi : idxH l h = some k := idxH_some hk (fun i hi hik => by
    cases hb : sameH l[i] h with
    | false => rfl
    | true => have := hvalidB_ne hv hk hik; rw [sameH_both hb hs] at this; cases this) hs
  unfold curL fnd
  rw [hi]
  simp
theorem curL_none {l : List Hol} {h : Hol} (hi : idxH l h = none) (k : Nat) : curL l h k = l ∧ fnd l h k = false := by
  unfold curL fnd
  rw [hi]
  exact ⟨rfl, rfl⟩
theorem curL_some {l : List Hol} {h : Hol} {i : Nat} (hi : idxH l h = some i) : curL l h l.length = putH l h ∧ fnd l h l.length = true := by
  obtain ⟨hl, _⟩ := idxH_spec hi
  unfold curL fnd putH
  rw [hi]
  simp [hl]
end Go.Proofs.Ytkpdimbblcmnaaa
