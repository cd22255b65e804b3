/- AllocateRunning: the walk of the law, with the example by its contract. -/
import Derived.Test.YtppjjmjdiccloaaRunR
import Derived.Test.YtppjjmjdiccloaaSame
import Derived.Deep.RegionHeld3
import Derived.Deep.DrawnRows
namespace Go.Proofs.Ytppjjmjdiccloaa
open Go.RowKit
attribute [local go_sem ↓] Go.wp_at_zero Go.wp_at_succ

def AwakeSaid : Prop := ∀ w : World, Calls Try.prog 11 #[] w fun e w' => e = .returned (.bool true) ∧ Keeps w w'

theorem running_l (l : List Int) (num den : Int) (v : Value) (w : World) (h : IntL w v l) (hlen : l.length ≤ 100000) :
    Calls Try.prog 19 #[v, .int .i64 num, .int .i64 den] w fun e w' => OutL w (runS l num den).1 (runS l num den).2 e w' := by
  obtain ⟨ao, cap, b, o, rfl, hs⟩ := h
  exact running_any l num den ao cap b o w hs hlen

set_option maxHeartbeats 1000000 in
theorem lawRun_any (hA : AwakeSaid) (l : List Int) (num den : Int) (ao : Option Addr) (cap b o : Nat) (w : World) (H : Sl w 1 ao l.length cap b o (l.map (.int .i64))) :
    Calls Try.prog 8 #[.slice ao l.length cap, .agg #[.int .i64 num, .int .i64 den]] w fun e w' => e = .returned (.bool true) ∧ Keeps w w' := by
  by_cases hlen : l.length ≤ 200
  · go_enter Try.func8, Try.ntmps8
    go_wp2_with (go_at_call 11; refine (hA _).mono ?_; rintro e w1 ⟨rfl, hk1⟩)
    have hk0 : Keeps w w1 := ((Keeps.refl w).alloc _).trans hk1
    have H1 := H.keeps hk0
    have c0 : w1.cell? ⟨w.heap.size, 0, none⟩ = some (.int .i64 num) := hk1.cell (by simp)
    have c1 : w1.cell? ⟨w.heap.size, 1, none⟩ = some (.int .i64 den) := hk1.cell (by simp)
    have h1c : ∀ u ∈ l.map (Value.int .i64), u.oneCell' = true := ints_oneCell _ _
    have HD := Lib.hid H1
    have HK1 := Lib.hid hk0
    have H1C := Lib.hid h1c
    clear hk0 H1 hk1 h1c H
    go_region_held3 (fun w' => w'.cell? ⟨w.heap.size, 0, none⟩ = some (.int .i64 num) ∧ w'.cell? ⟨w.heap.size, 1, none⟩ = some (.int .i64 den))
      (first | go_keep | (exact ⟨Keeps.cell hb2 c0, Keeps.cell hb2 c1⟩) | (exact ⟨hk3.cell (Keeps.cell hb2 c0), hk3.cell (Keeps.cell hb2 c1)⟩))
      (first | (refine step_app_all elemInt (by rfl) _ _ (by rfl) w1 _ 0 [] (by rfl) w1.heap.size (own_empty (Nat.le_refl _)) (by exact (((Below.refl _ w1).drew).alloc (Nat.le_refl _) _)) (by simp) ao l.length cap b o (l.map (.int .i64)) (by rfl) (by exact HD.out.keeps (((Below.refl _ w1).drew).alloc (Nat.le_refl _) _)) H1C.out (by omega) (by omega) ?_; intro v2 w2 hown2 hb2 hsz2) | (go_at_call 19; refine (running_l l num den _ _ ?_ (by omega)).mono ?_; (exact IntL.own (by simpa using hown2)); rintro e w3 ⟨ao3, cap3, b3, o3, rfl, hs3, hk3⟩))
    have hk13 : Keeps w1 w3 := Keeps.trans hb2 hk3
    have HD3 := HD.out.keeps hk13
    have d0 := hk13.cell c0
    have d1 := hk13.cell c1
    have HK3 := Lib.hid (HK1.out.trans hk13)
    have HS3 := Lib.hid hs3
    have hb : ((runS l num den).2 == (runS l num den).2) = true := beq_self_eq_true _
    clear c0 c1 hb2 hk3 hk13 hs3 hown2 hsz2 HD
    go_wp2_with (first | (go_at_call 20; refine (rrunning_any l num den ao cap b o _ HD3 (by omega)).mono ?_; rintro e w4 ⟨ao4, cap4, b4, o4, rfl, hs4, hk4⟩) | (go_at_call 14; refine (same_any _ _ _ _ _ _ _ _ _ _ _ (HS3.out.keeps hk4) hs4).mono ?_; rintro e w5 ⟨rfl, q5, rfl⟩))
    go_ret
    exact ⟨by simp, (HK3.out.trans hk4).drewN _⟩
  · go_enter Try.func8, Try.ntmps8
    go_wp2_with (go_at_call 11; refine (hA _).mono ?_; rintro e w1 ⟨rfl, hk1⟩)
    go_ret
    exact ⟨rfl, ((Keeps.refl w).alloc _).trans hk1⟩
end Go.Proofs.Ytppjjmjdiccloaa
