/- whole (the program's) and check (the reference's): the walks. -/
import Derived.Test.YtppjjmjdiccloaaMoneyW
import Derived.Test.YtppjjmjdiccloaaSplitP
namespace Go.Proofs.Ytppjjmjdiccloaa
open Go.RowKit

def WRel (ws : List Int) (s i : Value) : Prop := ∃ k : Nat, k ≤ ws.length ∧ i = .int .i64 k ∧ (ws.take k).all wgood = true ∧ s = .int .i64 (lsum (ws.take k))
def WPost (w : World) (total : Int) (ws : List Int) (e : Ending) (w' : World) : Prop :=
  e = .returned (.tuple #[.int .i64 (wholeS total ws).1, .int .i64 (wholeS total ws).2]) ∧ w = w'

set_option maxHeartbeats 400000 in
theorem whole_any (total : Int) (ws : List Int) (ao : Option Addr) (cap b o : Nat) (w : World) (H : Sl w 1 ao ws.length cap b o (ws.map (.int .i64))) :
    Calls Try.prog 22 #[.int .i64 total, .slice ao ws.length cap] w fun e w' => WPost w total ws e w' := by
  have hc := H.cap
  have hl := H.le
  cases ht : amt total
  · have HW : Hid (wholeS total ws = (0, 1)) := by show _ = _; rw [wholeS, if_pos (.inl ht)]
    go_enter Try.func22, Try.ntmps22
    go_wp2_with (go_at_call 28; refine (mvalid_any _ _).mono ?_; rintro e w' ⟨rfl, rfl⟩)
    go_ret2
    exact ⟨by rw [HW.out]; rfl, rfl⟩
  · by_cases h1 : 1 ≤ ws.length
    · by_cases h2 : ws.length ≤ 1000
      · go_enter Try.func22, Try.ntmps22
        go_wp2_with (go_at_call 28; refine (mvalid_any _ _).mono ?_; rintro e w' ⟨rfl, rfl⟩)
        have HT := Lib.hid ht
        clear ht
        go_loop [6, 24] (WRel ws) (fun _ i => ws.length - (intOf i).toNat)
        case atStart => exact ⟨0, Nat.zero_le _, rfl, by simp, rfl⟩
        case round =>
          obtain ⟨k, hk, rfl, hall, rfl⟩ := hrel
          have hbd := lsum_take_bd ws k hall h2
          by_cases hlt : k < ws.length
          · have hix := H.at1 Try.underlying22 Try.sizeOf3 k hlt
            have hcell := H.int k hlt
            cases hg : wgood ws[k]
            · have HB := Lib.hid (whole_bad total ws k hlt hg)
              have hg' := hg
              simp only [wgood, Bool.and_eq_false_iff, decide_eq_false_iff_not, Int.not_le] at hg'
              clear hall hg
              rcases hg' with hg' | hg'
              all_goals
                go_wp2
                go_ret2
                exact ⟨by rw [HB.out]; rfl, rfl⟩
            · have hall2 : (ws.take (k+1)).all wgood = true := by rw [take_snoc _ _ hlt, all_snoc, hall, hg]; rfl
              have HS := Lib.hid (lsum_take ws k hlt)
              simp only [wgood, Bool.and_eq_true, decide_eq_true_eq] at hg
              obtain ⟨hg1, hg2⟩ := hg
              have HA := Lib.hid hall2
              clear hall hall2
              go_wp2
              go_round
              case rel => exact ⟨k + 1, by omega, by go_num, HA.out, by rw [HS.out]⟩
              case measure => simp [intOf]; omega
          · obtain rfl : k = ws.length := by omega
            rw [List.take_length] at *
            have hw : wholeS total ws = if lsum ws = 0 then (0, 10) else (lsum ws, 0) := by
              rw [wholeS, if_neg]; rw [HT.out, hall]; simp only [Bool.true_eq_false, false_or, or_false]; omega
            have HW := Lib.hid hw
            clear hall hw
            by_cases hz : lsum ws = 0
            · have hz' : (lsum ws == 0) = true := by simp [hz]
              have HZ := Lib.hid hz
              clear hz
              go_wp2
              go_ret2
              exact ⟨by rw [HW.out, if_pos HZ.out]; rfl, rfl⟩
            · have hz' : (lsum ws == 0) = false := by simp [hz]
              have HZ := Lib.hid hz
              clear hz
              go_wp2
              go_ret2
              exact ⟨by rw [HW.out, if_neg HZ.out]; rfl, rfl⟩
      · have HW : Hid (wholeS total ws = (0, 1)) := by show _ = _; rw [wholeS, if_pos (by omega)]
        go_enter Try.func22, Try.ntmps22
        go_wp2_with (go_at_call 28; refine (mvalid_any _ _).mono ?_; rintro e w' ⟨rfl, rfl⟩)
        go_ret2
        exact ⟨by rw [HW.out]; rfl, rfl⟩
    · have HW : Hid (wholeS total ws = (0, 1)) := by show _ = _; rw [wholeS, if_pos (by omega)]
      go_enter Try.func22, Try.ntmps22
      go_wp2_with (go_at_call 28; refine (mvalid_any _ _).mono ?_; rintro e w' ⟨rfl, rfl⟩)
      go_ret2
      exact ⟨by rw [HW.out]; rfl, rfl⟩
end Go.Proofs.Ytppjjmjdiccloaa
