/- chart.Find and the reference's Find: the first account with a code. -/
import Derived.Test.YtppjjmjdiccloabRecs
import Derived.Test.YtppjjmjdiccloabProg
import Derived.Deep.QuietTactic
import Derived.BigQuiet
import Derived.Outline
namespace Go.Proofs.Ytppjjmjdiccloab
open Go.RowKit
set_option linter.unusedSimpArgs false

def findA (l : List Acc) (code : Int) : Option Acc := l.find? (fun a => a.code == code)
def AccO (r : Option Acc) : Value := .tuple #[(r.getD Acc.zero).val, .bool r.isSome]
theorem findA_some {l : List Acc} {code : Int} {k : Nat} (hk : k < l.length) (h : ∀ j (hj : j < l.length), j < k → l[j].code ≠ code) (he : l[k].code = code) : findA l code = some l[k] := by
  unfold findA
  rw [List.find?_eq_some_iff_getElem]
  exact ⟨by simpa using he, k, hk, rfl, fun j hj => by simpa using h j (by omega) hj⟩
theorem findA_none {l : List Acc} {code : Int} (h : ∀ j (hj : j < l.length), l[j].code ≠ code) : findA l code = none := by
  unfold findA
  rw [List.find?_eq_none]
  intro a ha
  obtain ⟨j, hj, rfl⟩ := List.getElem_of_mem ha
  simpa using h j hj

/-- The block of the result: four cells that can be written. -/
structure Res4 (w : World) (g : Nat) : Prop where
  c0 : ∃ v, w.cell? ⟨g, 0, none⟩ = some v
  c1 : ∃ v, w.cell? ⟨g, 1, none⟩ = some v
  c2 : ∃ v, w.cell? ⟨g, 2, none⟩ = some v
  c3 : ∃ v, w.cell? ⟨g, 3, none⟩ = some v
  f0 : w.frozen? ⟨g, 0, none⟩ = false
  f1 : w.frozen? ⟨g, 1, none⟩ = false
  f2 : w.frozen? ⟨g, 2, none⟩ = false
  f3 : w.frozen? ⟨g, 3, none⟩ = false

set_option maxHeartbeats 1000000 in
theorem find_any (l : List Acc) (code : Int) (ao : Option Addr) (cap b o : Nat) (w : World) (H : Accs w ao l cap b o) :
    Calls Try.prog 28 #[.slice ao l.length cap, .int .i64 code] w fun e w' => e = .returned (AccO (findA l code)) ∧ Keeps w w' := by
  have hcap := Sl.cap H
  have hle := Sl.le H
  go_enter Try.func28, Try.ntmps28
  go_wp2_with fail
  go_loopw [10] (fun vi wr => ∃ k : Nat, k ≤ l.length ∧ vi = .int .i64 k ∧ Hid (∀ j (hj : j < l.length), j < k → l[j].code ≠ code) ∧ Hid (Keeps w wr ∧ Res4 wr w.heap.size)) (fun vi _ => l.length - (intOf vi).toNat)
  case atStart => exact ⟨0, Nat.zero_le _, rfl, Lib.hid (fun j _ h => absurd h (Nat.not_lt_zero _)), Lib.hid ⟨(Keeps.refl w).alloc _, ⟨.int .i64 0, by go_simp⟩, ⟨.int .i64 0, by go_simp⟩, ⟨.int .i64 0, by go_simp⟩, ⟨.int .i64 0, by go_simp⟩, by go_simp, by go_simp, by go_simp, by go_simp⟩⟩
  case round =>
    obtain ⟨k, hk, rfl, HN, HW⟩ := hrel
    by_cases hlt : k < l.length
    · have HL := H.keeps HW.out.1
      have hix := HL.at Try.underlying22 Try.sizeOf50 k hlt
      have c0 := HL.cell Acc.len k hlt 0 _ rfl
      have c1 := HL.cell Acc.len k hlt 1 _ rfl
      have c2 := HL.cell Acc.len k hlt 2 _ rfl
      have c3 := HL.cell Acc.len k hlt 3 _ rfl
      simp only [Nat.add_zero] at c0
      obtain ⟨⟨v0, d0⟩, ⟨v1, d1⟩, ⟨v2, d2⟩, ⟨v3, d3⟩, f0, f1, f2, f3⟩ := HW.out.2
      have hbw := World.block_lt_of_cell? wr _ d0
      clear HL
      by_cases hc : l[k].code = code
      · have HF := Lib.hid (findA_some hlt HN.out hc)
        have e1 : (l[k].code == code) = true := by simpa using hc
        clear hc
        go_wp2
        refine bodyPost_ret (v := .tuple #[l[k].val, .bool true]) (by simp [results, Try.results28, go_sem, d0, d1, d2, d3, hbw, Acc.val]) rfl ?_
        rw [HF.out]
        exact ⟨rfl, by (repeat (first | exact HW.out.1 | refine Keeps.alloc ?_ _ | refine Keeps.setCell ?_ (Nat.le_refl _) _))⟩
      · have e1 : (l[k].code == code) = false := by simpa using hc
        have HN2 : Hid (∀ j (hj : j < l.length), j < k + 1 → l[j].code ≠ code) := Lib.hid (fun j hj h => by
          rcases Nat.lt_succ_iff_lt_or_eq.1 h with h | rfl
          · exact HN.out j hj h
          · exact hc)
        clear hc
        go_wp2
        go_roundw
        case rel => exact ⟨k + 1, by omega, by go_num, HN2, Lib.hid ⟨(by first | exact HW.out.1 | exact HW.out.1.alloc _), ⟨v0, by go_simp⟩, ⟨v1, by go_simp⟩, ⟨v2, by go_simp⟩, ⟨v3, by go_simp⟩, by go_simp, by go_simp, by go_simp, by go_simp⟩⟩
        case measure => simp [intOf]; omega
    · obtain rfl : k = l.length := by omega
      have HF := Lib.hid (findA_none (l := l) (code := code) fun j hj => HN.out j hj hj)
      obtain ⟨⟨v0, d0⟩, ⟨v1, d1⟩, ⟨v2, d2⟩, ⟨v3, d3⟩, f0, f1, f2, f3⟩ := HW.out.2
      have hbw := World.block_lt_of_cell? wr _ d0
      go_wp2
      refine bodyPost_ret (v := .tuple #[Acc.zero.val, .bool false]) (by simp [results, Try.results28, go_sem, d0, d1, d2, d3, hbw, Acc.val, Acc.zero]) rfl ?_
      rw [HF.out]
      exact ⟨rfl, by (repeat (first | exact HW.out.1 | refine Keeps.alloc ?_ _ | refine Keeps.setCell ?_ (Nat.le_refl _) _))⟩
set_option maxHeartbeats 1000000 in
theorem rfind_any (l : List Acc) (code : Int) (ao : Option Addr) (cap b o : Nat) (w : World) (H : Accs w ao l cap b o) :
    Calls Try.prog 25 #[.slice ao l.length cap, .int .i64 code] w fun e w' => e = .returned (AccO (findA l code)) ∧ Keeps w w' := by
  have hcap := Sl.cap H
  have hle := Sl.le H
  go_enter Try.func25, Try.ntmps25
  go_wp2_with fail
  go_loopw [6] (fun vi wr => ∃ k : Nat, k ≤ l.length ∧ vi = .int .i64 k ∧ Hid (∀ j (hj : j < l.length), j < k → l[j].code ≠ code) ∧ Hid (Keeps w wr ∧ Res4 wr w.heap.size)) (fun vi _ => l.length - (intOf vi).toNat)
  case atStart => exact ⟨0, Nat.zero_le _, rfl, Lib.hid (fun j _ h => absurd h (Nat.not_lt_zero _)), Lib.hid ⟨(Keeps.refl w).alloc _, ⟨.int .i64 0, by go_simp⟩, ⟨.int .i64 0, by go_simp⟩, ⟨.int .i64 0, by go_simp⟩, ⟨.int .i64 0, by go_simp⟩, by go_simp, by go_simp, by go_simp, by go_simp⟩⟩
  case round =>
    obtain ⟨k, hk, rfl, HN, HW⟩ := hrel
    by_cases hlt : k < l.length
    · have HL := H.keeps HW.out.1
      have hix := HL.at Try.underlying22 Try.sizeOf50 k hlt
      have c0 := HL.cell Acc.len k hlt 0 _ rfl
      have c1 := HL.cell Acc.len k hlt 1 _ rfl
      have c2 := HL.cell Acc.len k hlt 2 _ rfl
      have c3 := HL.cell Acc.len k hlt 3 _ rfl
      simp only [Nat.add_zero] at c0
      obtain ⟨⟨v0, d0⟩, ⟨v1, d1⟩, ⟨v2, d2⟩, ⟨v3, d3⟩, f0, f1, f2, f3⟩ := HW.out.2
      have hbw := World.block_lt_of_cell? wr _ d0
      clear HL
      by_cases hc : l[k].code = code
      · have HF := Lib.hid (findA_some hlt HN.out hc)
        have e1 : (l[k].code == code) = true := by simpa using hc
        clear hc
        go_wp2
        refine bodyPost_ret (v := .tuple #[l[k].val, .bool true]) (by simp [results, Try.results25, go_sem, d0, d1, d2, d3, hbw, Acc.val]) rfl ?_
        rw [HF.out]
        exact ⟨rfl, by (repeat (first | exact HW.out.1 | refine Keeps.alloc ?_ _ | refine Keeps.setCell ?_ (Nat.le_refl _) _))⟩
      · have e1 : (l[k].code == code) = false := by simpa using hc
        have HN2 : Hid (∀ j (hj : j < l.length), j < k + 1 → l[j].code ≠ code) := Lib.hid (fun j hj h => by
          rcases Nat.lt_succ_iff_lt_or_eq.1 h with h | rfl
          · exact HN.out j hj h
          · exact hc)
        clear hc
        go_wp2
        go_roundw
        case rel => exact ⟨k + 1, by omega, by go_num, HN2, Lib.hid ⟨(by first | exact HW.out.1 | exact HW.out.1.alloc _), ⟨v0, by go_simp⟩, ⟨v1, by go_simp⟩, ⟨v2, by go_simp⟩, ⟨v3, by go_simp⟩, by go_simp, by go_simp, by go_simp, by go_simp⟩⟩
        case measure => simp [intOf]; omega
    · obtain rfl : k = l.length := by omega
      have HF := Lib.hid (findA_none (l := l) (code := code) fun j hj => HN.out j hj hj)
      obtain ⟨⟨v0, d0⟩, ⟨v1, d1⟩, ⟨v2, d2⟩, ⟨v3, d3⟩, f0, f1, f2, f3⟩ := HW.out.2
      have hbw := World.block_lt_of_cell? wr _ d0
      go_wp2
      refine bodyPost_ret (v := .tuple #[Acc.zero.val, .bool false]) (by simp [results, Try.results25, go_sem, d0, d1, d2, d3, hbw, Acc.val, Acc.zero]) rfl ?_
      rw [HF.out]
      exact ⟨rfl, by (repeat (first | exact HW.out.1 | refine Keeps.alloc ?_ _ | refine Keeps.setCell ?_ (Nat.le_refl _) _))⟩
end Go.Proofs.Ytppjjmjdiccloab
