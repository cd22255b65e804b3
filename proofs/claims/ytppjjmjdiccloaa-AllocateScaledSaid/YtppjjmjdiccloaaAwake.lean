/- The example of the document holds: the walk of 'awake'. -/
import Derived.Test.YtppjjmjdiccloaaLawRun
import Derived.Test.YtppjjmjdiccloaaSplitW
namespace Go.Proofs.Ytppjjmjdiccloaa
open Go.RowKit

theorem awake_first {d : Nat → Int} (h : Srt (rst 100 3 [1, 1, 1]) d 0 3) (hs : Same 0 3 (fun k => (k : Int)) d) : d 0 = 0 := by
  obtain ⟨i, _, hi, e⟩ := hs.onto 0 (Nat.le_refl _) (by omega)
  simp only [Int.natCast_zero] at e
  rcases Nat.eq_zero_or_pos i with h0 | h0
  · subst h0; exact e
  · obtain ⟨j, _, hj, e0⟩ := hs.from_ 0 (Nat.le_refl _) (by omega)
    have h1 := h 0 i (Nat.le_refl _) h0 hi
    rw [e, e0] at h1
    have r0 : rst 100 3 [1, 1, 1] 0 = 1 := by decide
    have rj : rst 100 3 [1, 1, 1] (j : Int) = 1 := by
      match j, hj with
      | 0, _ => decide
      | 1, _ => decide
      | 2, _ => decide
    unfold lss at h1
    rw [r0, rj] at h1
    omega
theorem awake_parts {d : Nat → Int} (h : Srt (rst 100 3 [1, 1, 1]) d 0 3) (hs : Same 0 3 (fun k => (k : Int)) d) : splitL 100 [1, 1, 1] d = [34, 33, 33] := by
  have h0 := awake_first h hs
  have hf : ∀ v : Nat, inFirst d 1 v = ((0 : Int) == (v : Int)) := fun v => by simp [inFirst, h0]
  have hl : lef 100 (lsum [1, 1, 1]) [1, 1, 1] ([1, 1, 1] : List Int).length = ((1 : Nat) : Int) := by decide
  rw [splitL_pos (by omega) hl]
  rw [List.map_congr_left (fun v _ => show part 100 (lsum [1, 1, 1]) [1, 1, 1] d 1 v = bas 100 (lsum [1, 1, 1]) [1, 1, 1] v + if ((0 : Int) == (v : Int)) = true then 1 else 0 by rw [part, hf])]
  decide

set_option maxHeartbeats 400000 in
theorem awake_any : AwakeSaid := by
  intro w
  have hsp : ∀ (w : World) (ao : Option Addr) (cap b o : Nat), Sl w 1 ao ([1, 1, 1] : List Int).length cap b o (([1, 1, 1] : List Int).map (.int .i64)) → Calls Try.prog 12 #[.int .i64 100, .slice ao 3 cap] w fun e w' => OutL w [34, 33, 33] 0 e w' := by
    intro w ao cap b o H
    refine (split_pos 100 [1, 1, 1] ao cap b o w H (sort_small 3 (by omega)) (by decide) (by omega)).mono fun e w' h => ?_
    rw [SplitPost, if_pos (by decide)] at h
    obtain ⟨d, h1, h2, h3⟩ := h
    rw [awake_parts h1 h2] at h3
    exact h3
  have HSP := Lib.hid hsp
  clear hsp
  go_enter Try.func11, Try.ntmps11
  go_wp2_with (first | (go_at_call 12; refine (HSP.out _ _ _ _ _ (Sl.lit w 1 3 [.int .i64 1, .int .i64 1, .int .i64 1] 3 rfl (by omega))).mono ?_; rintro e w1 ⟨ao1, cap1, b1, o1, rfl, hs1, hk1⟩) | (go_at_call 14; refine (same_any [34, 33, 33] [34, 33, 33] _ _ _ _ _ _ _ _ _ (hs1.keeps ((Keeps.refl w1).alloc _)) (Sl.lit w1 1 3 [.int .i64 34, .int .i64 33, .int .i64 33] 3 rfl (by omega))).mono ?_; rintro e w2 ⟨rfl, q2, rfl⟩))
  go_ret
  exact ⟨by simp, ((((Keeps.refl w).alloc _).trans hk1).alloc _).drewN _⟩
end Go.Proofs.Ytppjjmjdiccloaa
