/- The reference's Of: the walk. -/
import Derived.Test.YtfddhmhagijodaaPDatP
namespace Go.Proofs.Ytfddhmhagijodaa
open Go.RowKit
set_option linter.unusedSimpArgs false
set_option linter.unusedVariables false

set_option maxRecDepth 100000 in
set_option maxHeartbeats 1000000 in
theorem of_any (l : List Bal) (c : Int) (ao : Option Addr) (cap b o : Nat) (w : World) (H : Recs w 2 Bal.cells ao l cap b o) :
    Calls Try.prog 17 #[.slice ao l.length cap, .int .i64 c] w fun e w' => e = .returned (.int .i64 (ofW l c)) ∧ w' = w := by
  have hcap := Sl.cap H
  have hle := Sl.le H
  go_enter Try.func17, Try.ntmps17
  go_wp2_with fail
  go_loopw [5, 6] (fun vn vi wr => ∃ (k : Nat) (n : Int), k ≤ l.length ∧ vi = .int .i64 k ∧ vn = .int .i64 n ∧ wr = w ∧ Hid (n = ofW (l.take k) c)) (fun _ vi _ => l.length - (intOf vi).toNat)
  case atStart => exact ⟨0, 0, Nat.zero_le _, rfl, rfl, rfl, Lib.hid rfl⟩
  case round =>
    obtain ⟨k, n, hk, rfl, rfl, rfl, HN⟩ := hrel
    by_cases hlt : k < l.length
    · have hix := Sl.at H Try.underlying42 Try.sizeOf52 k hlt
      obtain ⟨q, hq⟩ : ∃ q, l[k] = q := ⟨_, rfl⟩
      have c0 := H.cell Bal.len k hlt 0 (.int .i64 q.acc) (by rw [hq]; rfl)
      have c1 := H.cell Bal.len k hlt 1 (.int .i64 q.amount) (by rw [hq]; rfl)
      simp only [Nat.add_zero] at c0
      have HT : Hid (ofW (l.take (k + 1)) c = if q.acc = c then wr64 (n + q.amount) else n) := Lib.hid (by rw [take_snoc _ k hlt, hq, ofW_snoc, ← HN.out])
      clear hq
      by_cases h1 : q.acc = c
      · have e1 : (q.acc == c) = true := by simpa using h1
        rw [if_pos h1] at HT
        clear h1
        go_wp2_with fail
        go_roundw
        case rel => exact ⟨k + 1, wrap64 (n + q.amount), by omega, by go_num, rfl, by first | rfl | trivial, Lib.hid (by rw [HT.out, wr64_eq])⟩
        case measure => simp [intOf]; omega
      · have e1 : (q.acc == c) = false := by simpa using h1
        rw [if_neg h1] at HT
        clear h1
        go_wp2_with fail
        go_roundw
        case rel => exact ⟨k + 1, n, by omega, by go_num, rfl, by first | rfl | trivial, Lib.hid HT.out.symm⟩
        case measure => simp [intOf]; omega
    · obtain rfl : k = l.length := by omega
      have HF : Hid (n = ofW l c) := Lib.hid (by have := HN.out; rwa [List.take_length] at this)
      go_wp2_with fail
      go_ret
      exact ⟨by rw [← HF.out]; rfl, rfl⟩
end Go.Proofs.Ytfddhmhagijodaa
