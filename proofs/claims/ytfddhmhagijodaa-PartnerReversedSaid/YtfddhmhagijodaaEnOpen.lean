/- An argument opened: an entry. -/
import Derived.Test.YtfddhmhagijodaaBkOpen
namespace Go.Proofs.Ytfddhmhagijodaa
open Go.ChangeShapes Go.WideShapes Go.Deep Go.Joins Go.RowKit
section
variable {H : Type} {enc : TypeId × Value → H} {w : World} {base : Nat} {spare : Nat → Bool} {held : Bool}
set_option maxRecDepth 100000 in
theorem open_entV {r : Reach} {b0 : Nat} {v : Value} {d : DataW H} {p : List MemPlace} (hv : Value.okWide Try.prog w r b0 50 v) (h : DataW.Trod enc Try.prog w base spare held 50 v d p) : ∃ y : JV, v = .agg y.cells.toArray ∧ y.In w := by
  obtain ⟨⟨cs⟩, rfl, hsz⟩ := okWide_struct Try.underlying50 hv
  obtain ⟨fuel, hf⟩ := h
  obtain ⟨y, hy, hi⟩ := open_jv (hsz.trans cEn) hf
  exact ⟨y, by rw [hy], hi⟩
end
end Go.Proofs.Ytfddhmhagijodaa
