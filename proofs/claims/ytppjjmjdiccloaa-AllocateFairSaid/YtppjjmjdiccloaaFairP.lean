/- Fair, plain: what both Fairs say. No program. -/
import Derived.Test.YtppjjmjdiccloaaOrderP
namespace Go.Proofs.Ytppjjmjdiccloaa

/-- 1, or -1 for a negative total. -/
def sg1 (total : Int) : Int := if total < 0 then -1 else 1
/-- The part p of place v is one of the two that are allowed. -/
def fok (total : Int) (ws : List Int) (v : Nat) (p : Int) : Prop :=
  p = sgn total (bas (sgn total total) (lsum ws) ws v) ∨ (rsn (sgn total total) (lsum ws) ws v ≠ 0 ∧ p = sgn total (bas (sgn total total) (lsum ws) ws v + 1))
instance (total : Int) (ws : List Int) (v : Nat) (p : Int) : Decidable (fok total ws v p) := by unfold fok; infer_instance
/-- The first k parts are allowed. -/
def fokTo (total : Int) (ws ps : List Int) (k : Nat) : Prop := ∀ v (h : v < ps.length), v < k → fok total ws v ps[v]
def fairS (total : Int) (ws ps : List Int) : Bool :=
  decide ((wholeS total ws).2 = 0 ∧ ps.length = ws.length ∧ (∀ v, v < ps.length → fok total ws v (ps.getD v 0)) ∧ lsum ps = total)

theorem fokTo_succ {total : Int} {ws ps : List Int} {k : Nat} (h : fokTo total ws ps k) (hk : k < ps.length) (hf : fok total ws k ps[k]) : fokTo total ws ps (k + 1) := by
  intro v hv hlt
  rcases Nat.lt_succ_iff_lt_or_eq.1 hlt with h' | rfl
  · exact h v hv h'
  · exact hf
theorem sgn_add (total x y : Int) : sgn total (x + y) = sgn total x + sgn total y := by unfold sgn; split <;> omega
theorem sgn_sgn (total x : Int) : sgn total (sgn total x) = x := by unfold sgn; split <;> omega
/-- What is left is near to what the lower parts leave. -/
theorem left_bd {total : Int} {ws ps : List Int} (k : Nat) (hk : k ≤ ps.length) (h : fokTo total ws ps k) :
    lef (sgn total total) (lsum ws) ws k - k ≤ sgn total total - sgn total (lsum (ps.take k)) ∧ sgn total total - sgn total (lsum (ps.take k)) ≤ lef (sgn total total) (lsum ws) ws k := by
  induction k with
  | zero => unfold lef sgn; simp [sumTo, lsum]
  | succ k ih =>
    have h1 := ih (by omega) (fun v hv hlt => h v hv (by omega))
    have h2 := h k (by omega) (by omega)
    rw [lsum_take ps k (by omega)]
    rw [sgn_add]
    unfold lef at *
    rw [sumTo]
    rcases h2 with h2 | ⟨_, h2⟩
    · rw [h2, sgn_sgn]; omega
    · rw [h2, sgn_sgn]; omega
theorem fairS_true {total : Int} {ws ps : List Int} (he : (wholeS total ws).2 = 0) (hl : ps.length = ws.length) (hf : fokTo total ws ps ps.length) (hs : sgn total total - sgn total (lsum ps) = 0) : fairS total ws ps = true := by
  unfold fairS
  rw [decide_eq_true_eq]
  refine ⟨he, hl, fun v hv => ?_, ?_⟩
  · rw [List.getD_eq_getElem?_getD, List.getElem?_eq_getElem hv]; exact hf v hv hv
  · unfold sgn at hs; split at hs <;> omega
theorem fairS_sum {total : Int} {ws ps : List Int} (hs : ¬ sgn total total - sgn total (lsum ps) = 0) : fairS total ws ps = false := by
  unfold fairS
  rw [decide_eq_false_iff_not]
  rintro ⟨_, _, _, h⟩
  rw [h] at hs
  omega
theorem fairS_part {total : Int} {ws ps : List Int} {v : Nat} (hv : v < ps.length) (hf : ¬ fok total ws v ps[v]) : fairS total ws ps = false := by
  unfold fairS
  rw [decide_eq_false_iff_not]
  rintro ⟨_, _, h, _⟩
  have := h v hv
  rw [List.getD_eq_getElem?_getD, List.getElem?_eq_getElem hv] at this
  exact hf this
theorem fairS_len {total : Int} {ws ps : List Int} (hl : ps.length ≠ ws.length) : fairS total ws ps = false := by
  unfold fairS
  rw [decide_eq_false_iff_not]
  rintro ⟨_, h, _⟩
  exact hl h
theorem fairS_err {total : Int} {ws ps : List Int} (he : (wholeS total ws).2 ≠ 0) : fairS total ws ps = false := by
  unfold fairS
  rw [decide_eq_false_iff_not]
  rintro ⟨h, _⟩
  exact he h
end Go.Proofs.Ytppjjmjdiccloaa
