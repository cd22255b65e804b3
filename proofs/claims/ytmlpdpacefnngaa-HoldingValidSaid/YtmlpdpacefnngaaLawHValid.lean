/- HoldingValid: the walk of the law. -/
import Derived.Test.YtmlpdpacefnngaaHolAwake
namespace Go.Proofs.Ytmlpdpacefnngaa
open Go.RowKit
set_option linter.unusedSimpArgs false
set_option linter.unusedVariables false

set_option maxHeartbeats 1000000 in
theorem lawHValid_any (n : Int) (l : List Hol) (ao : Option Addr) (cap b o : Nat) (w : World) (H : Hols w ao l cap b o) (hok : ∀ x ∈ l, x.Ok) :
    Calls Try.prog 3 #[.int .i64 n, .slice ao l.length cap] w fun e w' => e = .returned (.bool true) ∧ Keeps w w' := by
  have HH := Lib.hid H
  have HO := Lib.hid hok
  have hcap := Sl.cap H
  have hle := Sl.le H
  clear H hok
  by_cases hl : l.length ≤ 30
  · have hl2 : decide ((30 : Int) < (l.length : Int)) = false := decide_eq_false (by omega)
    go_enter Try.func3, Try.ntmps3
    go_wp2_with (first | (go_at_call 15; refine (hawake_any _).mono ?_; rintro e w1 ⟨rfl, hk1⟩; have HK1 := Lib.hid hk1; clear hk1) | (go_at_call 16; (with_reducible refine (hvalid_any n ao l cap b o _ (HH.out.keeps HK1.out) (by omega) HO.out).mono ?_); rintro e w2 ⟨rfl, hk2⟩; have HK2 := Lib.hid (HK1.out.trans hk2); clear hk2) | (go_at_call 17; (with_reducible refine (hrvalid_any n ao l cap b o _ (HH.out.keeps HK2.out) (by omega)).mono ?_); rintro e w3 ⟨rfl, hk3⟩; have HK3 := Lib.hid (HK2.out.trans hk3); clear hk3))
    all_goals (go_ret)
    all_goals (exact ⟨by simp, HK3.out⟩)
  · have hl2 : decide ((30 : Int) < (l.length : Int)) = true := decide_eq_true (by omega)
    go_enter Try.func3, Try.ntmps3
    go_wp2_with (first | (go_at_call 15; refine (hawake_any _).mono ?_; rintro e w1 ⟨rfl, hk1⟩; have HK1 := Lib.hid hk1; clear hk1))
    all_goals (go_ret)
    all_goals (exact ⟨rfl, HK1.out⟩)
end Go.Proofs.Ytmlpdpacefnngaa
