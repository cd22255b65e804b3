/- MappingSum: the walks. -/
import Derived.Test.YtppjjmjdiccloabSumP
import Derived.Test.YtppjjmjdiccloabLawMove
import Derived.Test.YtppjjmjdiccloabRMValidW
namespace Go.Proofs.Ytppjjmjdiccloab
open Go.RowKit
set_option linter.unusedSimpArgs false
set_option linter.unusedVariables false

theorem inK_facts (c : List Acc) (kind acc : Int) : ∃ (a : Acc) (p : Bool), AccO (findA c acc) = .tuple #[.agg #[.int .i64 a.code, .int .i64 a.kind, .int .i64 a.basis, .int .i64 a.parent], .bool p] ∧ inK c kind acc = (kind == 0 || (p && a.kind == kind)) := by
  refine ⟨_, _, rfl, ?_⟩
  unfold inK
  cases findA c acc <;> simp
set_option maxRecDepth 100000 in
set_option maxHeartbeats 2000000 in
theorem sum_any (c : List Acc) (b : List Bal) (kind : Int) (aoc : Option Addr) (capc bc oc : Nat) (ao : Option Addr) (cap bb o : Nat) (w : World) (H2 : Accs w aoc c capc bc oc) (H : Bals w ao b cap bb o) (hl : b.length ≤ 100) (ham : ∀ x ∈ b, amtB x.amount = true) :
    Calls Try.prog 21 #[.slice aoc c.length capc, .slice ao b.length cap, .int .i64 kind] w fun e w' => e = .returned (.int .i64 (sumK c b kind)) ∧ Keeps w w' := by
  have hcap := Sl.cap H
  have hle := Sl.le H
  have HB := Lib.hid H
  have HC := Lib.hid H2
  have HAM := Lib.hid ham
  clear H H2 ham
  go_enter Try.func21, Try.ntmps21
  go_wp2_with fail
  go_loopw [7, 8] (fun vn vi wr => ∃ (k : Nat) (S : Int), k ≤ b.length ∧ vn = .int .i64 S ∧ vi = .int .i64 k ∧ -100000000000000 ≤ S ∧ S ≤ 100000000000000 ∧ Hid (S = sumK c (b.take k) kind ∧ -((k : Int) * 1000000000000) ≤ S ∧ S ≤ (k : Int) * 1000000000000) ∧ Hid (Keeps w wr)) (fun _ vi _ => b.length - (intOf vi).toNat)
  case atStart => exact ⟨0, 0, Nat.zero_le _, rfl, rfl, by omega, by omega, Lib.hid ⟨rfl, by omega, by omega⟩, Lib.hid (Keeps.refl w)⟩
  case round =>
    obtain ⟨k, S, hk, rfl, rfl, hS1, hS2, HS, HW⟩ := hrel
    by_cases hlt : k < b.length
    · have HL := HB.out.keeps HW.out
      have hix := Sl.at HL Try.underlying41 Try.sizeOf65 k hlt
      have c0 := HL.cell Bal.len k hlt 0 _ rfl
      have c1 := HL.cell Bal.len k hlt 1 _ rfl
      simp only [Nat.add_zero] at c0
      have ham := amtB_true.1 (HAM.out _ (List.getElem_mem hlt))
      obtain ⟨hA1, hA2⟩ := ham
      obtain ⟨a, p, ha, hi⟩ := inK_facts c kind b[k].acc
      have HF : Hid (∀ W, Accs W aoc c capc bc oc → Calls Try.prog 25 #[.slice aoc c.length capc, .int .i64 b[k].acc] W fun e w' => e = .returned (.tuple #[.agg #[.int .i64 a.code, .int .i64 a.kind, .int .i64 a.basis, .int .i64 a.parent], .bool p]) ∧ Keeps W w') := Lib.hid (fun W h => by have := rfind_any c b[k].acc aoc capc bc oc W h; rw [ha] at this; exact this)
      have hSb : -((k : Int) * 1000000000000) ≤ S ∧ S ≤ (k : Int) * 1000000000000 := HS.out.2
      have hS3 : -100000000000000 ≤ S + b[k].amount := by omega
      have hS4 : S + b[k].amount ≤ 100000000000000 := by omega
      clear HL ha hSb
      cases h0 : (kind == 0) with
      | true =>
        rw [h0, Bool.true_or] at hi
        have HI := Lib.hid hi
        clear hi
        go_wp2_with (go_at_call 25; (with_reducible refine (HF.out _ (HC.out.keeps HW.out)).mono ?_); rintro e1 w1 ⟨rfl, hk1⟩; have d1 := hk1.cell c1; have hz1 := World.block_lt_of_cell? _ _ d1; have K1 := Lib.hid (HW.out.trans hk1); clear hk1)
        go_roundw
        case rel => exact ⟨k + 1, S + b[k].amount, by omega, rfl, by go_num, by omega, by omega, Lib.hid ⟨by rw [take_snoc _ _ hlt, sumK_snoc, HI.out, ← HS.out.1]; simp, by have := HS.out.2; omega⟩, Lib.hid (K1.out.alloc _)⟩
        case measure => simp [intOf]; omega
      | false =>
        rw [h0, Bool.false_or] at hi
        cases p with
        | false =>
          rw [Bool.false_and] at hi
          have HI := Lib.hid hi
          clear hi
          go_wp2_with (go_at_call 25; (with_reducible refine (HF.out _ (HC.out.keeps HW.out)).mono ?_); rintro e1 w1 ⟨rfl, hk1⟩; have d1 := hk1.cell c1; have hz1 := World.block_lt_of_cell? _ _ d1; have K1 := Lib.hid (HW.out.trans hk1); clear hk1)
          go_roundw
          case rel => exact ⟨k + 1, S, by omega, rfl, by go_num, by omega, by omega, Lib.hid ⟨by rw [take_snoc _ _ hlt, sumK_snoc, HI.out, ← HS.out.1]; simp, by have := HS.out.2; omega⟩, Lib.hid (K1.out.alloc _)⟩
          case measure => simp [intOf]; omega
        | true =>
          rw [Bool.true_and] at hi
          cases hkd : (a.kind == kind) with
          | true =>
            rw [hkd] at hi
            have HI := Lib.hid hi
            clear hi
            go_wp2_with (go_at_call 25; (with_reducible refine (HF.out _ (HC.out.keeps HW.out)).mono ?_); rintro e1 w1 ⟨rfl, hk1⟩; have d1 := hk1.cell c1; have hz1 := World.block_lt_of_cell? _ _ d1; have K1 := Lib.hid (HW.out.trans hk1); clear hk1)
            go_roundw
            case rel => exact ⟨k + 1, S + b[k].amount, by omega, rfl, by go_num, by omega, by omega, Lib.hid ⟨by rw [take_snoc _ _ hlt, sumK_snoc, HI.out, ← HS.out.1]; simp, by have := HS.out.2; omega⟩, Lib.hid (K1.out.alloc _)⟩
            case measure => simp [intOf]; omega
          | false =>
            rw [hkd] at hi
            have HI := Lib.hid hi
            clear hi
            go_wp2_with (go_at_call 25; (with_reducible refine (HF.out _ (HC.out.keeps HW.out)).mono ?_); rintro e1 w1 ⟨rfl, hk1⟩; have d1 := hk1.cell c1; have hz1 := World.block_lt_of_cell? _ _ d1; have K1 := Lib.hid (HW.out.trans hk1); clear hk1)
            go_roundw
            case rel => exact ⟨k + 1, S, by omega, rfl, by go_num, by omega, by omega, Lib.hid ⟨by rw [take_snoc _ _ hlt, sumK_snoc, HI.out, ← HS.out.1]; simp, by have := HS.out.2; omega⟩, Lib.hid (K1.out.alloc _)⟩
            case measure => simp [intOf]; omega
    · obtain rfl : k = b.length := by omega
      have HQ := Lib.hid HS.out.1
      rw [List.take_length] at HQ
      go_wp2_with fail
      go_ret
      exact ⟨ret1 HQ.out, HW.out⟩
end Go.Proofs.Ytppjjmjdiccloab
