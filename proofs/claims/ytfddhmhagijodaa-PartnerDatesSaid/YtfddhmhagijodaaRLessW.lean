/- The reference's less at places: the walk. -/
import Derived.Test.YtfddhmhagijodaaRAllP
namespace Go.Proofs.Ytfddhmhagijodaa
open Go.RowKit
set_option linter.unusedSimpArgs false
set_option linter.unusedVariables false

set_option maxRecDepth 100000 in
set_option maxHeartbeats 2000000 in
theorem rless_any (p q : RP) (w : World) :
    Calls Try.prog 57 #[.agg #[.int .i64 p.y.x.id, .int .i64 p.y.x.ent, .int .i64 p.y.x.date, .int .i64 p.y.x.kind, .int .i64 p.y.x.of_, .string p.y.x.text, .slice p.y.a p.y.x.lines.length p.y.c, .int .i64 p.l.acc, .int .i64 p.l.amt, .int .i64 p.l.ptn, .int .i64 p.y.x.id, .int .i64 p.k, .int .i64 p.i, .int .i64 p.k], .agg #[.int .i64 q.y.x.id, .int .i64 q.y.x.ent, .int .i64 q.y.x.date, .int .i64 q.y.x.kind, .int .i64 q.y.x.of_, .string q.y.x.text, .slice q.y.a q.y.x.lines.length q.y.c, .int .i64 q.l.acc, .int .i64 q.l.amt, .int .i64 q.l.ptn, .int .i64 q.y.x.id, .int .i64 q.k, .int .i64 q.i, .int .i64 q.k]] w fun e w' => e = .returned (.bool (decide (cmpP p.plc q.plc < 0))) ∧ Keeps w w' := by
  have hP := plt_iff p.plc q.plc
  unfold PLt at hP
  simp only [RP.plc] at hP
  by_cases h1 : p.y.x.date = q.y.x.date
  · have e1 : (p.y.x.date != q.y.x.date) = false := by simpa using h1
    by_cases h2 : p.y.x.id = q.y.x.id
    · have e2 : (p.y.x.id != q.y.x.id) = false := by simpa using h2
      by_cases h3 : (p.i : Int) = (q.i : Int)
      · have e3 : ((p.i : Int) != (q.i : Int)) = false := by simpa using h3
        have HQ : Hid (decide (cmpP p.plc q.plc < 0) = decide (p.k < q.k)) := Lib.hid (by
          simp only [RP.plc]; apply decide_eq_decide.2; rw [hP]; omega)
        clear hP h1 h2 h3
        go_enter Try.func57, Try.ntmps57
        go_wp2_with fail
        go_ret
        exact ⟨by rw [HQ.out]; rfl, ((Keeps.refl w).alloc _).alloc _⟩
      · have e3 : ((p.i : Int) != (q.i : Int)) = true := by simpa using h3
        have HQ : Hid (decide (cmpP p.plc q.plc < 0) = decide (p.i < q.i)) := Lib.hid (by
          simp only [RP.plc]; apply decide_eq_decide.2; rw [hP]; omega)
        clear hP h1 h2 h3
        go_enter Try.func57, Try.ntmps57
        go_wp2_with fail
        go_ret
        exact ⟨by rw [HQ.out]; rfl, ((Keeps.refl w).alloc _).alloc _⟩
    · have e2 : (p.y.x.id != q.y.x.id) = true := by simpa using h2
      have HQ : Hid (decide (cmpP p.plc q.plc < 0) = decide (p.y.x.id < q.y.x.id)) := Lib.hid (by
        simp only [RP.plc]; apply decide_eq_decide.2; rw [hP]; omega)
      clear hP h1 h2
      go_enter Try.func57, Try.ntmps57
      go_wp2_with fail
      go_ret
      exact ⟨by rw [HQ.out]; rfl, ((Keeps.refl w).alloc _).alloc _⟩
  · have e1 : (p.y.x.date != q.y.x.date) = true := by simpa using h1
    have HQ : Hid (decide (cmpP p.plc q.plc < 0) = decide (p.y.x.date < q.y.x.date)) := Lib.hid (by
      simp only [RP.plc]; apply decide_eq_decide.2; rw [hP]; omega)
    clear hP h1
    go_enter Try.func57, Try.ntmps57
    go_wp2_with fail
    go_ret
    exact ⟨by rw [HQ.out]; rfl, ((Keeps.refl w).alloc _).alloc _⟩
end Go.Proofs.Ytfddhmhagijodaa
