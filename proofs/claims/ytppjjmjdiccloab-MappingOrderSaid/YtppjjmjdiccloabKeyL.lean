/- Records of ints as the keys of a map. -/
import Derived.Test.YtppjjmjdiccloabKeys
import Derived.DeepKeys4
namespace Go.Proofs.Ytppjjmjdiccloab
open Go.RowKit Go.Maps

theorem keyLits_int {P : Program} {d : Nat} {t : TypeId} {x : Int} (hu : P.underlying t = some (.int .i64)) (h : I64 x) : P.keyLits (d + 1) t [.int .i64 x] = some [.int .i64 x] := by
  have hw := wf64.2 h
  unfold Program.keyLits
  rw [hu]
  simp [hw]
theorem keyOf_link {a b c : Int} (ha : I64 a) (hb : I64 b) (hc : I64 c) : keyOf Try.prog 39 (.agg #[.int .i64 a, .int .i64 b, .int .i64 c]) = some (.string (keyBytes [.int .i64 a, .int .i64 b, .int .i64 c])) := by
  unfold keyOf
  rw [Try.underlying39]
  have h1 : Try.prog.keyType 39 = true := by kernel_rfl
  have h2 : (Value.agg #[.int .i64 a, .int .i64 b, .int .i64 c]).formed Try.prog 39 = true := by
    have : Try.prog.cellsOf 39 = 3 := by kernel_rfl
    simp [Value.formed, Try.underlying39, this]
  have hs : Try.prog.types.size = (Try.prog.types.size - 1) + 1 := by
    have : 0 < Try.prog.types.size := of_decide_eq_true (by kernel_rfl)
    omega
  have h3 : Try.prog.keyLits (Try.prog.types.size + 1) 39 [.int .i64 a, .int .i64 b, .int .i64 c] = some [.int .i64 a, .int .i64 b, .int .i64 c] := by
    have hi : ∀ d x, I64 x → Try.prog.keyLits (d + 1) 3 [.int .i64 x] = some [.int .i64 x] := fun d x h => keyLits_int Try.underlying3 h
    have c3 : Try.prog.cellsOf 39 = 3 := by kernel_rfl
    have c1 : Try.prog.cellsOf 3 = 1 := by kernel_rfl
    unfold Program.keyLits
    rw [Try.underlying39]
    rw [hs]
    simp [c3, c1, hi, ha, hb, hc]
  simp only [h1, h2, Bool.and_self, if_true]
  show (Try.prog.keyLits (Try.prog.types.size + 1) 39 [.int .i64 a, .int .i64 b, .int .i64 c]).map _ = _
  rw [h3]
  rfl
theorem laidOutK : laidOutB Try.prog = true := by kernel_rfl
theorem linkKeyed : Keyed Try.prog 39 := Keyed.of_law (deep_law_laid laidOutK (m := 2) (by omega) (of_decide_eq_true (by kernel_rfl)) (by kernel_rfl) (by rw [Try.underlying39]))
def linkK : KeyEnc Try.prog 39 Lnk where
  enc l := .agg #[.int .i64 l.frm, .int .i64 l.to, .int .i64 l.since]
  lit l := .string (keyBytes [.int .i64 l.frm, .int .i64 l.to, .int .i64 l.since])
  ok l := I64 l.frm ∧ I64 l.to ∧ I64 l.since
  keyed := linkKeyed
  key l h := keyOf_link h.1 h.2.1 h.2.2
  inj a b _ _ h := by
    obtain ⟨a0, a1, a2⟩ := a
    obtain ⟨b0, b1, b2⟩ := b
    simpa using h
end Go.Proofs.Ytppjjmjdiccloab
