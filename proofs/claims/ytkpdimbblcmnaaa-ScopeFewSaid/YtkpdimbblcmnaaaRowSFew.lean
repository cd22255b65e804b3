/- 'tallystone/tallystonelaw26.ScopeFew' holds: the proof of the given statement, from the walk of the law. No condition. -/
import Derived.Test.YtkpdimbblcmnaaaRowB
import Derived.Test.YtkpdimbblcmnaaaBoolOpen
import Derived.Test.YtkpdimbblcmnaaaHolOpen
import Derived.Test.YtkpdimbblcmnaaaLawSF
namespace Go.Proofs.Ytkpdimbblcmnaaa.scopeFew
open Go.ChangeShapes Go.WideShapes Go.ChangeAt Go.RowKit
open Go.ChangeMaps (open_string shut_string)
set_option linter.unusedVariables false


set_option maxRecDepth 100000 in
theorem lifted (os : Os) (started : os.Started) (H : Type) (enc : TypeId × Value → H) :
    ReturnsInHanded {} Try.checked os 10 .any (Rows.scopeFewSpec.pre6 enc Try.prog Try.f10 Rows.scopeFewRow.domain false) (Rows.scopeFewSpec.post enc Try.prog Try.f10 false true false false) := by
  refine returnsInHanded_of_change (C := Try.checked) own started (by kernel_rfl) Try.func10
    (ChangeSpec.witness6 (enc := enc) (C := Try.checked) false ⟨#[], #[.slice none 0 0, .slice none 0 0, .agg #[.int .i64 0, .int .i64 0, .int .i64 0, .int .i64 0]], []⟩ 8 (by kernel_rfl) (by kernel_rfl) (by kernel_rfl) (by kernel_rfl)) ?_
  intro W base args ds gs before hval0 hW hcnd _
  have hval : ∀ (j : Nat) t v, Try.f10.params[j]? = some t → args[j]? = some v → Value.okWide Try.prog W .any base t v := hval0
  have hW' := hW
  obtain ⟨p, q, hA0, hV, rfl, hfz, hnd⟩ := hW
  have hA : DataW.TrodAll enc Try.prog W 0 (fun _ => true) true Try.f10.params.toList args.toList ds p := hA0
  rw [Try.params10] at hA hval
  obtain ⟨v0, vs0, d0, ds0, p0, q0, hargs, rfl, rfl, h0, r0⟩ := trodAll_cons hA
  obtain ⟨v1, vs1, d1, ds1, p1, q1, rfl, rfl, rfl, h1, r1⟩ := trodAll_cons r0
  obtain ⟨v2, vs2, d2, ds2, p2, q2, rfl, rfl, rfl, h2, r2⟩ := trodAll_cons r1
  obtain ⟨rfl, rfl, rfl⟩ := trodAll_nil r2
  obtain rfl : args = #[v0, v1, v2] := by cases args; simp_all
  obtain ⟨rfl, rfl⟩ := trodVars_none hV
  have k0 := h0
  have lt0 : ∀ x ∈ p0, x.block < W.heap.size := by obtain ⟨m, hm⟩ := k0; exact DataW.trod_lt m _ _ _ hm
  have ok0 := hval 0 22 v0 rfl rfl
  have k1 := h1
  have lt1 : ∀ x ∈ p1, x.block < W.heap.size := by obtain ⟨m, hm⟩ := k1; exact DataW.trod_lt m _ _ _ hm
  have ok1 := hval 1 23 v1 rfl rfl
  have k2 := h2
  have lt2 : ∀ x ∈ p2, x.block < W.heap.size := by obtain ⟨m, hm⟩ := k2; exact DataW.trod_lt m _ _ _ hm
  have ok2 := hval 2 46 v2 rfl rfl
  obtain ⟨js, ao0, cap0, b0, o0, rfl, HS0⟩ := open_boolS Try.underlying22 Try.underlying4 (by kernel_rfl) ok0 h0
  obtain ⟨sa1, sl1, sc1, rfl⟩ := okWide_slice Try.underlying23 ok1
  obtain ⟨l, ⟨ao1, cap1, b1, o1, es1, HS1⟩, OK1⟩ : ∃ l, HolL W (.slice sa1 sl1 sc1) l ∧ ∀ a ∈ l, a.Ok := by
    obtain ⟨fuel, hf⟩ := h1
    exact open_hols (by simpa [Value.cells] using hf)
  simp only [Value.slice.injEq] at es1
  obtain ⟨rfl, rfl, rfl⟩ := es1
  obtain ⟨x, rfl, okx⟩ := open_hol ok2 h2
  clear hA0 hval0
  refine (lawSFew_any js l x okx ao0 cap0 b0 o0 sa1 sc1 b1 o1 W HS0 HS1 OK1).mono fun e W' ⟨he, bel⟩ => ?_
  subst he
  exact ⟨_, rfl, _, _, _, [], _, [], hW', trodAll_mk1 (shut_bool Try.underlying4 _), (trodAll_cons_mk (Below.trod laidOut (by kernel_rfl) (of_decide_eq_true (by kernel_rfl)) k0 bel lt0) (trodAll_cons_mk (Below.trod laidOut (by kernel_rfl) (of_decide_eq_true (by kernel_rfl)) k1 bel lt1) (trodAll_cons_mk (Below.trod laidOut (by kernel_rfl) (of_decide_eq_true (by kernel_rfl)) k2 bel lt2) trodAll_mk0))), rfl, bel.frame _, fun h => by cases h⟩

theorem over : Rows.scopeFewRow.holds Try.pinned (OpenSpec.ofChange Rows.scopeFewSpec) :=
  OpenClaim.holds_of_wide 10 Try.f10 rfl rfl rfl rfl rfl rfl rfl ⟨rfl, rfl, rfl, rfl, rfl⟩ rfl rfl rfl rfl rfl (by kernel_rfl) Try.func10 (by kernel_rfl)
    (of_decide_eq_true (by kernel_rfl)) (by unfold Func.isWrapper; first | (rw [if_pos (by decide +kernel)]; kernel_rfl) | (rw [if_neg (by decide +kernel)]; exact ⟨rfl, rfl⟩))
    (fun os started H enc _ => lifted os started H enc)
end Go.Proofs.Ytkpdimbblcmnaaa.scopeFew
namespace Go.Proofs.Ytkpdimbblcmnaaa
/-- THE STATEMENT. -/
theorem scopeFew_holds : Rows.ScopeFewSaid := scopeFew.over
#print axioms scopeFew_holds
end Go.Proofs.Ytkpdimbblcmnaaa
