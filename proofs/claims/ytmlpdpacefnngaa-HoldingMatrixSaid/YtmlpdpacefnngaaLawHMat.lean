/- HoldingMatrix: the walk of the law. -/
import Derived.Test.YtmlpdpacefnngaaHolAwake
import Derived.Test.YtmlpdpacefnngaaHolRMat
import Derived.Test.YtmlpdpacefnngaaHolSameM
namespace Go.Proofs.Ytmlpdpacefnngaa
open Go.RowKit
set_option linter.unusedSimpArgs false
set_option linter.unusedVariables false

set_option maxRecDepth 100000 in
set_option maxHeartbeats 4000000 in
theorem lawHMat_any (n : Int) (l : List Hol) (day : Int) (ao : Option Addr) (cap b o : Nat) (w : World) (H : Hols w ao l cap b o) (hok : ∀ x ∈ l, x.Ok) :
    Calls Try.prog 8 #[.int .i64 n, .slice ao l.length cap, .int .i64 day] w fun e w' => e = .returned (.bool true) ∧ Keeps w w' := by
  have HH := Lib.hid H
  have HO := Lib.hid hok
  have hcap := Sl.cap H
  have hle := Sl.le H
  clear H hok
  by_cases hl : l.length ≤ 30
  · have e1 : decide ((30 : Int) < (l.length : Int)) = false := decide_eq_false (by omega)
    obtain ⟨⟨rl, re⟩, hr⟩ : ∃ r, matR n l day = r := ⟨_, rfl⟩
    have HM1 : Hid (∀ W, Keeps w W → Calls Try.prog 28 #[.int .i64 n, .slice ao l.length cap, .int .i64 day] W fun e w' => ∃ ao cap b o, e = .returned (.tuple #[.slice ao rl.length cap, .int .i64 re]) ∧ Rows w' ao rl cap b o ∧ Keeps W w') := Lib.hid (fun W hk => by
      have := matrix_any n ao l cap b o day W (HH.out.keeps hk) (by omega) HO.out
      rw [hr] at this
      exact this)
    have HM2 : Hid (∀ W, Keeps w W → Calls Try.prog 29 #[.int .i64 n, .slice ao l.length cap, .int .i64 day] W fun e w' => ∃ ao cap b o, e = .returned (.tuple #[.slice ao rl.length cap, .int .i64 re]) ∧ Rows w' ao rl cap b o ∧ Keeps W w') := Lib.hid (fun W hk => by
      have := rmatrix_any n ao l cap b o day W (HH.out.keeps hk) (by omega)
      rw [hr] at this
      exact this)
    clear hr
    go_enter Try.func8, Try.ntmps8
    go_wp2_with (first | (go_at_call 30; (with_reducible refine (sameM_any rl ao6 ao7 cap6 b6 o6 cap7 b7 o7 _ HS67.out HS7.out).mono ?_); rintro e w8 ⟨rfl, hk8⟩; have K8 := Lib.hid (K7.out.trans hk8); clear hk8) | (go_at_call 29; (with_reducible refine (HM2.out _ K6.out).mono ?_); rintro e w7 ⟨ao7, cap7, b7, o7, rfl, hs7, hk7⟩; have HS7 := Lib.hid hs7; have K7 := Lib.hid (K6.out.trans hk7); have HS67 := Lib.hid (HS6.out.keeps hk7); clear hs7 hk7) | (go_at_call 28; (with_reducible refine (HM1.out _ K1.out).mono ?_); rintro e w6 ⟨ao6, cap6, b6, o6, rfl, hs6, hk6⟩; have HS6 := Lib.hid hs6; have K6 := Lib.hid (K1.out.trans hk6); clear hs6 hk6) | (go_at_call 15; refine (hawake_any _).mono ?_; rintro e w1 ⟨rfl, hk1⟩; have K1 := Lib.hid hk1; clear hk1))
    go_ret
    exact ⟨rfl, K8.out⟩
  · have e1 : decide ((30 : Int) < (l.length : Int)) = true := decide_eq_true (by omega)
    go_enter Try.func8, Try.ntmps8
    go_wp2_with (go_at_call 15; refine (hawake_any _).mono ?_; rintro e w1 ⟨rfl, hk1⟩; have K1 := Lib.hid hk1; clear hk1)
    go_ret
    exact ⟨rfl, K1.out⟩
end Go.Proofs.Ytmlpdpacefnngaa
