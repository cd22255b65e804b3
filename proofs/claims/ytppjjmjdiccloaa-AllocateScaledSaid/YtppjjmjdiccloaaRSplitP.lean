/- The reference's Split, plain: the best rest is the next of the order. No program. -/
import Derived.Test.YtppjjmjdiccloaaOrderP
namespace Go.Proofs.Ytppjjmjdiccloaa

/-- The rests after t rounds. -/
def rsts (abs sum : Int) (ws : List Int) (d : Nat → Int) (t v : Nat) : Int := if inFirst d t v = true then -1 else rsn abs sum ws v
theorem rsts_zero (abs sum : Int) (ws : List Int) (d : Nat → Int) (v : Nat) : rsts abs sum ws d 0 v = rsn abs sum ws v := by simp [rsts, inFirst]
theorem rsts_step (abs sum : Int) (ws : List Int) {d : Nat → Int} {t v : Nat} (hv : d t = v) (k : Nat) : rsts abs sum ws d (t + 1) k = upd (rsts abs sum ws d t) v (-1) k := by
  unfold upd
  by_cases hk : k = v
  · subst hk
    have h1 : inFirst d (t + 1) k = true := inFirst_true.2 ⟨t, by omega, hv⟩
    rw [if_pos rfl, rsts, if_pos h1]
  · rw [if_neg hk]
    unfold rsts
    rw [inFirst_succ]
    have : (d t == (k : Int)) = false := by
      rw [beq_eq_false_iff_ne, hv]; omega
    rw [this, Bool.or_false]
/-- b is the first one of the greatest among the first k. -/
def Best (f : Nat → Int) (k b : Nat) : Prop := b < k ∧ ∀ u, u < k → f u ≤ f b ∧ (u < b → f u < f b)
theorem Best.start (f : Nat → Int) : Best f 1 0 := ⟨by omega, fun u hu => by obtain rfl : u = 0 := by omega
                                                                             exact ⟨Int.le_refl _, fun h => by omega⟩⟩
theorem Best.keep {f : Nat → Int} {k b : Nat} (h : Best f k b) (hn : ¬ f b < f k) : Best f (k + 1) b :=
  ⟨by have := h.1; omega, fun u hu => by
    rcases Nat.lt_succ_iff_lt_or_eq.1 hu with h' | rfl
    · exact h.2 u h'
    · exact ⟨by omega, fun h2 => by have := h.1; omega⟩⟩
theorem Best.new {f : Nat → Int} {k b : Nat} (h : Best f k b) (hn : f b < f k) : Best f (k + 1) k :=
  ⟨by omega, fun u hu => by
    rcases Nat.lt_succ_iff_lt_or_eq.1 hu with h' | rfl
    · have := (h.2 u h').1; exact ⟨by omega, fun _ => by omega⟩
    · exact ⟨Int.le_refl _, fun h2 => by omega⟩⟩
theorem Best.next {abs sum : Int} {ws : List Int} {d : Nat → Int} {n t b : Nat} (h : Best (rsts abs sum ws d t) n b) (hsum : 1 ≤ sum) (hs : Srt (rst abs sum ws) d 0 n) (hm : Same 0 n (fun k => (k : Int)) d) (ht : t < n) : d t = b := by
  have hnn : ∀ v, 0 ≤ rsn abs sum ws v := fun v => Int.emod_nonneg _ (by omega)
  obtain ⟨v, _, hv, ev⟩ := hm.from_ t (Nat.zero_le _) ht
  have ev' : d t = (v : Int) := ev
  have hnot : inFirst d t v = false := by
    cases hf : inFirst d t v
    · rfl
    · obtain ⟨i, hi, e⟩ := inFirst_true.1 hf
      have := hs.inj (show i < n by omega) ht (by rw [e, ev'])
      omega
  have e1 : rsts abs sum ws d t v = rsn abs sum ws v := by rw [rsts, hnot]; simp
  have h2 := (h.2 v hv).1
  rw [e1] at h2
  have hbn : inFirst d t b = false := by
    cases hf : inFirst d t b
    · rfl
    · have : rsts abs sum ws d t b = -1 := by rw [rsts, if_pos hf]
      have := hnn v
      omega
  have e2 : rsts abs sum ws d t b = rsn abs sum ws b := by rw [rsts, hbn]; simp
  obtain ⟨j, _, hj, ej⟩ := hm.onto b (Nat.zero_le _) h.1
  have ej' : d j = (b : Int) := ej
  have htj : t ≤ j := by
    apply Nat.le_of_not_lt
    intro hlt
    have := inFirst_true.2 ⟨j, hlt, ej'⟩
    rw [hbn] at this
    cases this
  rcases Nat.lt_or_eq_of_le htj with h' | h'
  · exfalso
    have hl := hs t j (Nat.zero_le _) h' hj
    rw [ev', ej'] at hl
    unfold lss at hl
    rw [rst_nat, rst_nat] at hl
    rw [e2] at h2
    have h3 := (h.2 v hv).2
    rw [e1, e2] at h3
    omega
  · rw [h']; exact ej'
end Go.Proofs.Ytppjjmjdiccloaa
