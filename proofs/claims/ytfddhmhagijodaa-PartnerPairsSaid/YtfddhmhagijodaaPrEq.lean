/- Two pairs compared. -/
import Derived.Test.YtfddhmhagijodaaPrP
import Derived.Laws.StructEq
namespace Go.Proofs.Ytfddhmhagijodaa
open Go.RowKit
set_option linter.unusedSimpArgs false
set_option linter.unusedVariables false

theorem eqInPr (a b c d : Int) (w : World) : (Op.equalIn 10000 66 (.agg #[.int .i64 a, .int .i64 b]) (.agg #[.int .i64 c, .int .i64 d])).run Try.prog w = .ok (a == c && b == d) w := by
  have u3 := Try.underlying3
  have a3 := Try.isAgg3
  have z3 := Try.sizeOf3
  rw [show (10000 : Nat) = 9999 + 1 from rfl, Op.equalIn]
  simp only [Sem.run_bind, run_underlying Try.underlying66, Result.andThen_ok]
  simp only [Std.Legacy.Range.forIn_eq_forIn_range', Std.Legacy.Range.size, Nat.sub_zero, Nat.add_sub_cancel, Nat.div_one, List.range'_succ, List.range'_zero, List.forIn_cons, List.forIn_nil]
  go_simp
  by_cases h1 : a = c <;> by_cases h2 : b = d <;> simp [h1, h2]
theorem neqPr (x y : Pr) (w : World) : (binOp .neq 66 (.agg #[.int .i64 x.a, .int .i64 x.b]) (.agg #[.int .i64 y.a, .int .i64 y.b])).run Try.prog w = .ok (.bool (decide (x ≠ y))) w := by
  have h := eqInPr x.a x.b y.a y.b w
  obtain ⟨a, b⟩ := x
  obtain ⟨c, d⟩ := y
  go_simp
  by_cases h1 : a = c <;> by_cases h2 : b = d <;> simp [h1, h2]
end Go.Proofs.Ytfddhmhagijodaa
