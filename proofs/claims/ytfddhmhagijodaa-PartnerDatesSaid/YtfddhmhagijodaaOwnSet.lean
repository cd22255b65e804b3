/- A run of stores into a row that the call owns. No program. -/
import Derived.Test.YtfddhmhagijodaaIdxW
namespace Go.Proofs.Ytfddhmhagijodaa
open Go.RowKit
set_option linter.unusedSimpArgs false
set_option linter.unusedVariables false

/-- A run of values set in a list. -/
def setL : List Value → Nat → List Value → List Value
  | xs, _, [] => xs
  | xs, s, v :: r => setL (xs.set s v) (s + 1) r
theorem own_setCells {base g cap n size : Nat} {e : TypeId} : ∀ (vs : List Value) (s : Nat) (w : World) (xs : List Value), w.ownsRow base e size (.slice (some ⟨g, 0, none⟩) n cap) n xs →
    (w.setCells g s vs).ownsRow base e size (.slice (some ⟨g, 0, none⟩) n cap) n (setL xs s vs) ∧ w.grownBy (w.setCells g s vs) (some g)
  | [], s, w, xs, h => ⟨h, grown_refl _ _⟩
  | v :: vs, s, w, xs, h => by
    obtain ⟨h1, h2⟩ := h.stored s v
    obtain ⟨h3, h4⟩ := own_setCells vs (s + 1) _ _ h1
    exact ⟨h3, h2.trans h4⟩
theorem setL_app (ys : List Value) : ∀ (vs xs : List Value) (s : Nat), s = xs.length → ∀ zs : List Value, zs.length = vs.length → setL (xs ++ zs ++ ys) s vs = xs ++ vs ++ ys
  | [], xs, s, h, zs, hz => by
    have : zs = [] := List.eq_nil_of_length_eq_zero hz
    subst this; rfl
  | v :: vs, xs, s, h, zs, hz => by
    cases zs with
    | nil => simp at hz
    | cons z zs =>
      have e : (xs ++ (z :: zs) ++ ys).set s v = (xs ++ [v]) ++ zs ++ ys := by subst h; simp [List.set_append]
      rw [setL, e, setL_app ys vs (xs ++ [v]) (s + 1) (by simp [h]) zs (by simpa using hz)]
      simp
end Go.Proofs.Ytfddhmhagijodaa
