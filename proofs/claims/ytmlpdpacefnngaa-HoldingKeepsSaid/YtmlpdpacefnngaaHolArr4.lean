/- An array of two holdings opened. -/
import Derived.Test.YtmlpdpacefnngaaHolOpen
import Derived.OpenShut
namespace Go.Proofs.Ytmlpdpacefnngaa
open Go.ChangeShapes Go.WideShapes Go.Deep Go.Joins Go.RowKit
theorem cellsArrH : Try.prog.cellsOf 40 = 8 := by kernel_rfl
section
variable {H : Type} {enc : TypeId × Value → H} {w : World} {base : Nat} {spare : Nat → Bool} {held : Bool}
set_option maxRecDepth 100000 in
theorem half_hol {m : Nat} {a b c d : Value} {x : DataW H × List MemPlace} (h : DataW.trod enc Try.prog w base spare held m 27 [a, b, c, d] = some x) : ∃ y : Hol, a = .int .i64 y.holder ∧ b = .int .i64 y.entity ∧ c = .int .i64 y.date ∧ d = .int .i64 y.share ∧ y.Ok := by
  obtain ⟨y0, y1, y2, y3, n, _, _, g0, g1, g2, g3⟩ := trod_struct4 Try.underlying27 h
  obtain ⟨z0, e0, _, w0⟩ := DataW.trod_int Try.underlying3 g0
  obtain ⟨z1, e1, _, w1⟩ := DataW.trod_int Try.underlying3 g1
  obtain ⟨z2, e2, _, w2⟩ := DataW.trod_int Try.underlying3 g2
  obtain ⟨z3, e3, _, w3⟩ := DataW.trod_int Try.underlying3 g3
  have hc : Try.prog.cellsOf 3 = 1 := by kernel_rfl
  simp [hc] at e0 e1 e2 e3
  subst e0 e1 e2 e3
  exact ⟨⟨z0, z1, z2, z3⟩, rfl, rfl, rfl, rfl, i64_wf w0, i64_wf w1, i64_wf w2, i64_wf w3⟩
set_option maxRecDepth 100000 in
theorem open_arrH {r : Reach} {b0 : Nat} {v : Value} {d : DataW H} {p : List MemPlace} (hv : Value.okWide Try.prog w r b0 40 v) (h : DataW.Trod enc Try.prog w base spare held 40 v d p) :
    ∃ x y : Hol, v = .agg #[.int .i64 x.holder, .int .i64 x.entity, .int .i64 x.date, .int .i64 x.share, .int .i64 y.holder, .int .i64 y.entity, .int .i64 y.date, .int .i64 y.share] ∧ x.Ok ∧ y.Ok := by
  simp only [Value.okWide, Try.underlying40] at hv
  obtain ⟨cs, rfl, hsz, _⟩ := hv
  have h8 := hsz.trans cellsArrH
  obtain ⟨fuel, hf⟩ := h
  obtain ⟨xs, m, _, _, _, hl, hg⟩ := DataW.trod_array Try.underlying40 hf
  obtain ⟨cl⟩ := cs
  match cl, h8, xs, hl with
  | [c0, c1, c2, c3, c4, c5, c6, c7], _, [y0, y1], _ =>
    have g0 := hg 0 (by omega)
    have g1 := hg 1 (by omega)
    rw [cellsHol] at g0 g1
    simp [Value.cells] at g0 g1
    obtain ⟨x, rfl, rfl, rfl, rfl, hx⟩ := half_hol g0
    obtain ⟨y, rfl, rfl, rfl, rfl, hy⟩ := half_hol g1
    exact ⟨x, y, rfl, hx, hy⟩
end
end Go.Proofs.Ytmlpdpacefnngaa
