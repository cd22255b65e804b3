/- References as the keys of a map. -/
import Derived.Test.YtfddhmhagijodaaNetW
import Derived.DeepKeys4
namespace Go.Proofs.Ytfddhmhagijodaa
open Go.RowKit Go.Maps
set_option linter.unusedSimpArgs false

theorem keyLits_int {P : Program} {d : Nat} {t : TypeId} {x : Int} (hu : P.underlying t = some (.int .i64)) (h : I64 x) : P.keyLits (d + 1) t [.int .i64 x] = some [.int .i64 x] := by
  have hw := wf64.2 h
  unfold Program.keyLits
  rw [hu]
  simp [hw]
theorem keyOf_ref {a b : Int} (ha : I64 a) (hb : I64 b) : keyOf Try.prog 59 (.agg #[.int .i64 a, .int .i64 b]) = some (.string (keyBytes [.int .i64 a, .int .i64 b])) := by
  unfold keyOf
  rw [Try.underlying59]
  have h1 : Try.prog.keyType 59 = true := by kernel_rfl
  have h2 : (Value.agg #[.int .i64 a, .int .i64 b]).formed Try.prog 59 = true := by
    have : Try.prog.cellsOf 59 = 2 := by kernel_rfl
    simp [Value.formed, Try.underlying59, this]
  have hs : Try.prog.types.size = (Try.prog.types.size - 1) + 1 := by
    have : 0 < Try.prog.types.size := of_decide_eq_true (by kernel_rfl)
    omega
  have h3 : Try.prog.keyLits (Try.prog.types.size + 1) 59 [.int .i64 a, .int .i64 b] = some [.int .i64 a, .int .i64 b] := by
    have hi : ∀ d x, I64 x → Try.prog.keyLits (d + 1) 3 [.int .i64 x] = some [.int .i64 x] := fun d x h => keyLits_int Try.underlying3 h
    have c2 : Try.prog.cellsOf 59 = 2 := by kernel_rfl
    have c1 : Try.prog.cellsOf 3 = 1 := by kernel_rfl
    unfold Program.keyLits
    rw [Try.underlying59]
    rw [hs]
    simp [c2, c1, hi, ha, hb]
  simp only [h1, h2, Bool.and_self, if_true]
  show (Try.prog.keyLits (Try.prog.types.size + 1) 59 [.int .i64 a, .int .i64 b]).map _ = _
  rw [h3]
  rfl
theorem laidOutK : laidOutB Try.prog = true := by kernel_rfl
theorem refKeyed : Keyed Try.prog 59 := Keyed.of_law (deep_law_laid laidOutK (m := 2) (by omega) (of_decide_eq_true (by kernel_rfl)) (by kernel_rfl) (by rw [Try.underlying59]))
def Rf.Ok (r : Rf) : Prop := I64 r.e ∧ I64 r.l
def refK : KeyEnc Try.prog 59 Rf where
  enc l := .agg #[.int .i64 l.e, .int .i64 l.l]
  lit l := .string (keyBytes [.int .i64 l.e, .int .i64 l.l])
  ok := Rf.Ok
  keyed := refKeyed
  key l h := keyOf_ref h.1 h.2
  inj a b _ _ h := by
    obtain ⟨a0, a1⟩ := a
    obtain ⟨b0, b1⟩ := b
    simpa using h
theorem VMap.below {P : Program} {k : TypeId} {α : Type} {K : KeyEnc P k α} {w w' : World} {b n N : Nat} {f : α → Option Value} (h : VMap K w b n f) (hk : Below N w w') (hb : b < N) : VMap K w' b n f := by
  obtain ⟨D, ⟨es, clock, hb2, F, hs, hD⟩, h2⟩ := h
  exact ⟨D, ⟨es, clock, (hk.block b hb).trans hb2, F, hs, hD⟩, h2⟩
/-- A set as a map to true. -/
def setM (M : Rf → Bool) : Rf → Option Value := fun r => if M r then some (.bool true) else none
theorem setM_get (M : Rf → Bool) (r : Rf) : (setM M r).getD (.bool false) = .bool (M r) := by
  unfold setM; cases M r <;> rfl
theorem Rf.one (r : Rf) : ∀ v ∈ r.cells, v.oneCell' = true := by
  intro u hu
  simp only [Rf.cells, List.mem_cons, List.not_mem_nil, or_false] at hu
  rcases hu with rfl | rfl <;> rfl
end Go.Proofs.Ytfddhmhagijodaa
