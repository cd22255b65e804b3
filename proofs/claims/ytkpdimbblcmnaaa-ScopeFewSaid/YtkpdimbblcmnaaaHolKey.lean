/- Holdings as the keys of a map. -/
import Derived.Test.YtkpdimbblcmnaaaKMap
import Derived.Test.YtkpdimbblcmnaaaKHolP
import Derived.DeepKeys4
namespace Go.Proofs.Ytkpdimbblcmnaaa
open Go.RowKit Go.Maps

theorem keyLits_int {P : Program} {d : Nat} {t : TypeId} {x : Int} (hu : P.underlying t = some (.int .i64)) (h : I64 x) : P.keyLits (d + 1) t [.int .i64 x] = some [.int .i64 x] := by
  have hw := wf64.2 h
  unfold Program.keyLits
  rw [hu]
  simp [hw]
theorem keyOf_hol {a b c d : Int} (ha : I64 a) (hb : I64 b) (hc : I64 c) (hd : I64 d) : keyOf Try.prog 46 (.agg #[.int .i64 a, .int .i64 b, .int .i64 c, .int .i64 d]) = some (.string (keyBytes [.int .i64 a, .int .i64 b, .int .i64 c, .int .i64 d])) := by
  unfold keyOf
  rw [Try.underlying46]
  have h1 : Try.prog.keyType 46 = true := by kernel_rfl
  have h2 : (Value.agg #[.int .i64 a, .int .i64 b, .int .i64 c, .int .i64 d]).formed Try.prog 46 = true := by
    have : Try.prog.cellsOf 46 = 4 := by kernel_rfl
    simp [Value.formed, Try.underlying46, this]
  have hs : Try.prog.types.size = (Try.prog.types.size - 1) + 1 := by
    have : 0 < Try.prog.types.size := of_decide_eq_true (by kernel_rfl)
    omega
  have h3 : Try.prog.keyLits (Try.prog.types.size + 1) 46 [.int .i64 a, .int .i64 b, .int .i64 c, .int .i64 d] = some [.int .i64 a, .int .i64 b, .int .i64 c, .int .i64 d] := by
    have hi : ∀ d x, I64 x → Try.prog.keyLits (d + 1) 3 [.int .i64 x] = some [.int .i64 x] := fun d x h => keyLits_int Try.underlying3 h
    have c4 : Try.prog.cellsOf 46 = 4 := by kernel_rfl
    have c1 : Try.prog.cellsOf 3 = 1 := by kernel_rfl
    unfold Program.keyLits
    rw [Try.underlying46]
    rw [hs]
    simp [c4, c1, hi, ha, hb, hc, hd]
  simp only [h1, h2, Bool.and_self, if_true]
  show (Try.prog.keyLits (Try.prog.types.size + 1) 46 [.int .i64 a, .int .i64 b, .int .i64 c, .int .i64 d]).map _ = _
  rw [h3]
  rfl
theorem laidOutK : laidOutB Try.prog = true := by kernel_rfl
theorem holKeyed : Keyed Try.prog 46 := Keyed.of_law (deep_law_laid laidOutK (m := 2) (by omega) (of_decide_eq_true (by kernel_rfl)) (by kernel_rfl) (by rw [Try.underlying46]))
def holK : KeyEnc Try.prog 46 Hol where
  enc l := .agg #[.int .i64 l.holder, .int .i64 l.entity, .int .i64 l.date, .int .i64 l.share]
  lit l := .string (keyBytes [.int .i64 l.holder, .int .i64 l.entity, .int .i64 l.date, .int .i64 l.share])
  ok l := I64 l.holder ∧ I64 l.entity ∧ I64 l.date ∧ I64 l.share
  keyed := holKeyed
  key l h := keyOf_hol h.1 h.2.1 h.2.2.1 h.2.2.2
  inj a b _ _ h := by
    obtain ⟨a0, a1, a2, a3⟩ := a
    obtain ⟨b0, b1, b2, b3⟩ := b
    simpa using h
end Go.Proofs.Ytkpdimbblcmnaaa
