/- 'tallystone/tallystonelaw27.PartnerLines' holds: the proof of the given statement, from the walk of the law. No condition. -/
import Derived.Test.YtfddhmhagijodaaRowB
import Derived.Test.YtfddhmhagijodaaBkOpen
import Derived.Test.YtfddhmhagijodaaBkSize
import Derived.Test.YtfddhmhagijodaaLawPLin
namespace Go.Proofs.Ytfddhmhagijodaa.partnerLines
open Go.ChangeShapes Go.WideShapes Go.ChangeAt Go.RowKit
open Go.ChangeMaps (open_string shut_string)
set_option linter.unusedVariables false

theorem cellsAgg3 : Try.prog.cellsOf 38 = 3 := by kernel_rfl

set_option maxRecDepth 100000 in
theorem lifted (os : Os) (started : os.Started) (H : Type) (enc : TypeId × Value → H) :
    ReturnsInHanded {} Try.checked os 6 .any (Rows.partnerLinesSpec.pre6 enc Try.prog Try.f6 Rows.partnerLinesRow.domain false) (Rows.partnerLinesSpec.post enc Try.prog Try.f6 false true false false) := by
  refine returnsInHanded_of_change_sized (C := Try.checked) own started (by kernel_rfl) Try.func6
    (ChangeSpec.witness6 (enc := enc) (C := Try.checked) false ⟨#[], #[.agg #[.string ⟨#[]⟩, .int .i64 0, .int .i64 0, .int .i64 0, .slice none 0 0, .int .i64 0, .int .i64 0, .int .i64 0, .int .i64 0, .int .i64 0, .int .i64 0, .int .i64 0, .int .i64 0, .int .i64 0, .int .i64 0, .int .i64 0, .int .i64 0, .int .i64 0, .int .i64 0, .int .i64 0, .slice none 0 0, .slice none 0 0, .slice none 0 0, .slice none 0 0, .slice none 0 0, .slice none 0 0, .string ⟨#[]⟩], .agg #[.int .i64 0, .int .i64 0, .int .i64 0]], []⟩ 8 (by kernel_rfl) (by kernel_rfl) (by kernel_rfl) (by kernel_rfl)) ?_
  intro W base args ds gs before hval0 hW hcnd hsz _
  have hval : ∀ (j : Nat) t v, Try.f6.params[j]? = some t → args[j]? = some v → Value.okWide Try.prog W .any base t v := hval0
  have hW' := hW
  obtain ⟨p, q, hA0, hV, rfl, hfz, hnd⟩ := hW
  have hA : DataW.TrodAll enc Try.prog W 0 (fun _ => true) true Try.f6.params.toList args.toList ds p := hA0
  rw [Try.params6] at hA hval
  obtain ⟨v0, vs0, d0, ds0, p0, q0, hargs, rfl, rfl, h0, r0⟩ := trodAll_cons hA
  obtain ⟨v1, vs1, d1, ds1, p1, q1, rfl, rfl, rfl, h1, r1⟩ := trodAll_cons r0
  obtain ⟨rfl, rfl, rfl⟩ := trodAll_nil r1
  obtain rfl : args = #[v0, v1] := by cases args; simp_all
  obtain ⟨rfl, rfl⟩ := trodVars_none hV
  have k0 := h0
  have lt0 : ∀ x ∈ p0, x.block < W.heap.size := by obtain ⟨m, hm⟩ := k0; exact DataW.trod_lt m _ _ _ hm
  have ok0 := hval 0 36 v0 rfl rfl
  have k1 := h1
  have lt1 : ∀ x ∈ p1, x.block < W.heap.size := by obtain ⟨m, hm⟩ := k1; exact DataW.trod_lt m _ _ _ hm
  have ok1 := hval 1 38 v1 rfl rfl
  obtain ⟨bv, es, ms, rfl, HB0⟩ := open_books ok0 h0
  obtain ⟨c0_1, c1_1, c2_1, y0_1, y1_1, y2_1, m_1, rfl, rfl, rfl, hy0_1, hy1_1, hy2_1⟩ := Go.Joins.open_agg3 Try.underlying38 (by kernel_rfl) cellsAgg3 ok1 h1
  obtain ⟨qe, e0_1, rfl, wfa1⟩ := DataW.trod_int Try.underlying3 hy0_1
  obtain ⟨qp, e1_1, rfl, wfb1⟩ := DataW.trod_int Try.underlying3 hy1_1
  obtain ⟨qd, e2_1, rfl, wfc1⟩ := DataW.trod_int Try.underlying3 hy2_1
  simp only [List.cons.injEq, and_true] at e0_1 e1_1 e2_1
  subst e0_1 e1_1 e2_1
  have hs0 : ∀ n ∈ d0.weights Try.prog 36, n ≤ reachBytes := fun n hn => by
    have := List.all_eq_true.1 hsz n (DataW.weights_mem_each (j := 0) (t := 36) (by rw [Try.params6]; rfl) rfl n hn)
    simpa using this
  have hsm : ∀ m ∈ ms, m.x.left.length + m.x.right.length ≤ 9223372036854775807 := fun m hm => by
    have := books_sized k0 HB0 hs0 m hm
    unfold reachBytes at this
    omega
  clear hA0 hval0
  refine (lawLin_any bv es ms qe qp qd W HB0 hsm).mono fun e W' ⟨he, bel⟩ => ?_
  subst he
  exact ⟨_, rfl, _, _, _, [], _, [], hW', trodAll_mk1 (shut_bool Try.underlying4 _), (trodAll_cons_mk (Below.trod laidOut (by kernel_rfl) (of_decide_eq_true (by kernel_rfl)) k0 bel lt0) (trodAll_cons_mk (Below.trod laidOut (by kernel_rfl) (of_decide_eq_true (by kernel_rfl)) k1 bel lt1) trodAll_mk0)), rfl, bel.frame _, fun h => by cases h⟩

theorem over : Rows.partnerLinesRow.holds Try.pinned (OpenSpec.ofChange Rows.partnerLinesSpec) :=
  OpenClaim.holds_of_wide 6 Try.f6 rfl rfl rfl rfl rfl rfl rfl ⟨rfl, rfl, rfl, rfl, rfl⟩ rfl rfl rfl rfl rfl (by kernel_rfl) Try.func6 (by kernel_rfl)
    (of_decide_eq_true (by kernel_rfl)) (by unfold Func.isWrapper; first | (rw [if_pos (by decide +kernel)]; kernel_rfl) | (rw [if_neg (by decide +kernel)]; exact ⟨rfl, rfl⟩))
    (fun os started H enc _ => lifted os started H enc)
end Go.Proofs.Ytfddhmhagijodaa.partnerLines
namespace Go.Proofs.Ytfddhmhagijodaa
/-- THE STATEMENT. -/
theorem partnerLines_holds : Rows.PartnerLinesSaid := partnerLines.over
#print axioms partnerLines_holds
end Go.Proofs.Ytfddhmhagijodaa
