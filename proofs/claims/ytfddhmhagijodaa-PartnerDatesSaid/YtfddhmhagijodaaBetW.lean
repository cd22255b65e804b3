/- partner.between$1: the walk. -/
import Derived.Test.YtfddhmhagijodaaPlacesW
namespace Go.Proofs.Ytfddhmhagijodaa
open Go.RowKit
set_option linter.unusedSimpArgs false
set_option linter.unusedVariables false

/-- A line of another entity or with another partner. -/
def outsB (en pt : Int) (p : Plc) : Bool := decide (p.ent ≠ en) || decide (p.ptn ≠ pt)
theorem between1_any (p : Plc) (be bp : Nat) (en pt : Int) (w : World) (he : w.cell? ⟨be, 0, none⟩ = some (.int .i64 en)) (hp : w.cell? ⟨bp, 0, none⟩ = some (.int .i64 pt)) :
    Calls Try.prog 46 #[.agg #[.int .i64 p.eid, .int .i64 p.idx, .int .i64 p.date, .int .i64 p.at_, .int .i64 p.ent, .int .i64 p.acc, .int .i64 p.amt, .int .i64 p.ptn], .pointer (some ⟨be, 0, none⟩), .pointer (some ⟨bp, 0, none⟩)] w
      fun e w' => e = .returned (.bool (outsB en pt p)) ∧ Keeps w w' := by
  have hbe := World.block_lt_of_cell? _ _ he
  have hbp := World.block_lt_of_cell? _ _ hp
  by_cases h1 : p.ent = en
  · have e1 : (p.ent != en) = false := by simpa using h1
    by_cases h2 : p.ptn = pt
    · have e2 : (p.ptn != pt) = false := by simpa using h2
      have HO : Hid (outsB en pt p = false) := Lib.hid (by simp [outsB, h1, h2])
      clear h1 h2
      go_enter Try.func46, Try.ntmps46
      go_wp2_with fail
      go_ret
      exact ⟨by rw [HO.out]; rfl, (Keeps.refl w).alloc _⟩
    · have e2 : (p.ptn != pt) = true := by simpa using h2
      have HO : Hid (outsB en pt p = true) := Lib.hid (by simp [outsB, h1, h2])
      clear h1 h2
      go_enter Try.func46, Try.ntmps46
      go_wp2_with fail
      go_ret
      exact ⟨by rw [HO.out]; rfl, (Keeps.refl w).alloc _⟩
  · have e1 : (p.ent != en) = true := by simpa using h1
    have HO : Hid (outsB en pt p = true) := Lib.hid (by simp [outsB, h1])
    clear h1
    go_enter Try.func46, Try.ntmps46
    go_wp2_with fail
    go_ret
    exact ⟨by rw [HO.out]; rfl, (Keeps.refl w).alloc _⟩
end Go.Proofs.Ytfddhmhagijodaa
