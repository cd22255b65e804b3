/- A cut (an entity, a method, a time) as an argument. -/
import Derived.Test.YtkpdimbblcmnaaaHolOpen
import Derived.Lib.SmallJoins
namespace Go.Proofs.Ytkpdimbblcmnaaa
open Go.ChangeShapes Go.WideShapes Go.Deep Go.Joins Go.RowKit
theorem cellsCut : Try.prog.cellsOf 52 = 4 := by kernel_rfl
section
variable {H : Type} {enc : TypeId × Value → H} {w : World} {base : Nat} {spare : Nat → Bool} {held : Bool}
set_option maxRecDepth 100000 in
theorem open_cut {r : Reach} {b0 : Nat} {v : Value} {d : DataW H} {p : List MemPlace} (hv : Value.okWide Try.prog w r b0 52 v) (h : DataW.Trod enc Try.prog w base spare held 52 v d p) :
    ∃ z0 z1 z2 z3 : Int, v = .agg #[.int .i64 z0, .int .i64 z1, .int .i64 z2, .int .i64 z3] ∧ I64 z0 ∧ I64 z1 ∧ I64 z2 ∧ I64 z3 := by
  obtain ⟨c0, c1, c2, c3, y0, y1, y2, y3, m, rfl, _, _, g0, g1, g2, g3⟩ := Go.Joins.open_agg4 Try.underlying52 (by kernel_rfl) cellsCut hv h
  obtain ⟨z0, e0, _, w0⟩ := DataW.trod_int Try.underlying3 g0
  obtain ⟨z1, e1, _, w1⟩ := DataW.trod_int Try.underlying3 g1
  obtain ⟨z2, e2, _, w2⟩ := DataW.trod_int Try.underlying3 g2
  obtain ⟨z3, e3, _, w3⟩ := DataW.trod_int Try.underlying3 g3
  simp only [List.cons.injEq, and_true] at e0 e1 e2 e3
  subst e0 e1 e2 e3
  exact ⟨z0, z1, z2, z3, rfl, i64_wf w0, i64_wf w1, i64_wf w2, i64_wf w3⟩
end
end Go.Proofs.Ytkpdimbblcmnaaa
