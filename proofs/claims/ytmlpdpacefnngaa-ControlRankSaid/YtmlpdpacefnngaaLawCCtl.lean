/- ControlControlled and ControlRank: the walks of the laws. -/
import Derived.Test.YtmlpdpacefnngaaCtlAwake
import Derived.Test.YtmlpdpacefnngaaCtlRVotes
namespace Go.Proofs.Ytmlpdpacefnngaa
open Go.RowKit
set_option linter.unusedSimpArgs false
set_option linter.unusedVariables false

set_option maxRecDepth 100000 in
set_option maxHeartbeats 4000000 in
theorem lawCCtl_any (n : Int) (l : List Hol) (day : Int) (ao : Option Addr) (cap b o : Nat) (w : World) (H : Hols w ao l cap b o) (hok : ∀ x ∈ l, x.Ok) :
    Calls Try.prog 11 #[.int .i64 n, .slice ao l.length cap, .int .i64 day] w fun e w' => e = .returned (.bool true) ∧ Keeps w w' := by
  have HH := Lib.hid H
  have HO := Lib.hid hok
  have hcap := Sl.cap H
  have hle := Sl.le H
  clear H hok
  by_cases hl : l.length ≤ 30
  · have e1 : decide ((30 : Int) < (l.length : Int)) = false := decide_eq_false (by omega)
    obtain ⟨⟨rl, re⟩, hr⟩ : ∃ r, ctlR n l day = r := ⟨_, rfl⟩
    have HM1 : Hid (∀ W, Keeps w W → Calls Try.prog 33 #[.int .i64 n, .slice ao l.length cap, .int .i64 day] W fun e w' => ∃ ao cap b o, e = .returned (.tuple #[.slice ao rl.length cap, .int .i64 re]) ∧ Sl w' 1 ao rl.length cap b o (rl.map .bool) ∧ Keeps W w') := Lib.hid (fun W hk => by
      have := controlled_any n l day ao cap b o W (HH.out.keeps hk) (by omega) HO.out
      rw [hr] at this
      exact this)
    have HM2 : Hid (∀ W, Keeps w W → Calls Try.prog 34 #[.int .i64 n, .slice ao l.length cap, .int .i64 day] W fun e w' => ∃ ao cap b o, e = .returned (.tuple #[.slice ao rl.length cap, .int .i64 re]) ∧ Sl w' 1 ao rl.length cap b o (rl.map .bool) ∧ Keeps W w') := Lib.hid (fun W hk => by
      have := rcontrolled_any n l day ao cap b o W (HH.out.keeps hk) (by omega)
      rw [hr] at this
      exact this)
    clear hr
    go_enter Try.func11, Try.ntmps11
    go_wp2_with (first | (go_at_call 35; (with_reducible refine (sameBools_any rl ao2 ao3 cap2 b2 o2 cap3 b3 o3 _ (HS2.out.keeps D3.out) HS3.out).mono ?_); rintro e w8 ⟨rfl, hk8⟩; have K8 := Lib.hid (K3.out.trans hk8); clear hk8) | (go_at_call 34; (with_reducible refine (HM2.out _ K2.out).mono ?_); rintro e w3 ⟨ao3, cap3, b3, o3, rfl, hs3, hk3⟩; have HS3 := Lib.hid hs3; have K3 := Lib.hid (K2.out.trans hk3); have D3 := Lib.hid hk3; clear hs3 hk3) | (go_at_call 33; (with_reducible refine (HM1.out _ K1.out).mono ?_); rintro e w2 ⟨ao2, cap2, b2, o2, rfl, hs2, hk2⟩; have HS2 := Lib.hid hs2; have K2 := Lib.hid (K1.out.trans hk2); have D2 := Lib.hid hk2; clear hs2 hk2) | (go_at_call 32; refine (cawake_any _).mono ?_; rintro e w1 ⟨rfl, hk1⟩; have K1 := Lib.hid hk1; clear hk1))
    go_ret
    exact ⟨rfl, K8.out⟩
  · have e1 : decide ((30 : Int) < (l.length : Int)) = true := decide_eq_true (by omega)
    go_enter Try.func11, Try.ntmps11
    go_wp2_with (go_at_call 32; refine (cawake_any _).mono ?_; rintro e w1 ⟨rfl, hk1⟩; have K1 := Lib.hid hk1; clear hk1)
    go_ret
    exact ⟨rfl, K1.out⟩
set_option maxRecDepth 100000 in
set_option maxHeartbeats 4000000 in
theorem lawCRank_any (n : Int) (l : List Hol) (day : Int) (ao : Option Addr) (cap b o : Nat) (w : World) (H : Hols w ao l cap b o) (hok : ∀ x ∈ l, x.Ok) :
    Calls Try.prog 14 #[.int .i64 n, .slice ao l.length cap, .int .i64 day] w fun e w' => e = .returned (.bool true) ∧ Keeps w w' := by
  have HH := Lib.hid H
  have HO := Lib.hid hok
  have hcap := Sl.cap H
  have hle := Sl.le H
  clear H hok
  by_cases hl : l.length ≤ 30
  · have e1 : decide ((30 : Int) < (l.length : Int)) = false := decide_eq_false (by omega)
    obtain ⟨⟨rl, re⟩, hr⟩ : ∃ r, rankR n l day = r := ⟨_, rfl⟩
    obtain ⟨⟨vl, ve⟩, hv⟩ : ∃ r, votesR n l day = r := ⟨_, rfl⟩
    have HM1 : Hid (∀ W, Keeps w W → Calls Try.prog 36 #[.int .i64 n, .slice ao l.length cap, .int .i64 day] W fun e w' => ∃ ao cap b o, e = .returned (.tuple #[.slice ao rl.length cap, .int .i64 re]) ∧ Sl w' 1 ao rl.length cap b o (rl.map (.int .i64)) ∧ Keeps W w') := Lib.hid (fun W hk => by
      have := rank_any n l day ao cap b o W (HH.out.keeps hk) (by omega) HO.out
      rw [hr] at this
      exact this)
    have HM2 : Hid (∀ W, Keeps w W → Calls Try.prog 37 #[.int .i64 n, .slice ao l.length cap, .int .i64 day] W fun e w' => ∃ ao cap b o, e = .returned (.tuple #[.slice ao rl.length cap, .int .i64 re]) ∧ Sl w' 1 ao rl.length cap b o (rl.map (.int .i64)) ∧ Keeps W w') := Lib.hid (fun W hk => by
      have := rrank_any n l day ao cap b o W (HH.out.keeps hk) (by omega)
      rw [hr] at this
      exact this)
    have HM3 : Hid (∀ W, Keeps w W → Calls Try.prog 38 #[.int .i64 n, .slice ao l.length cap, .int .i64 day] W fun e w' => ∃ ao cap b o, e = .returned (.tuple #[.slice ao vl.length cap, .int .i64 ve]) ∧ Sl w' 1 ao vl.length cap b o (vl.map (.int .i64)) ∧ Keeps W w') := Lib.hid (fun W hk => by
      have := callsIn_wide.1 (votes_in n l day ao cap b o W (HH.out.keeps hk) (by omega) HO.out)
      rw [hv] at this
      exact this)
    have HM4 : Hid (∀ W, Keeps w W → Calls Try.prog 39 #[.int .i64 n, .slice ao l.length cap, .int .i64 day] W fun e w' => ∃ ao cap b o, e = .returned (.tuple #[.slice ao vl.length cap, .int .i64 ve]) ∧ Sl w' 1 ao vl.length cap b o (vl.map (.int .i64)) ∧ Keeps W w') := Lib.hid (fun W hk => by
      have := rvotes_any n l day ao cap b o W (HH.out.keeps hk) (by omega)
      rw [hv] at this
      exact this)
    clear hr hv
    go_enter Try.func14, Try.ntmps14
    go_wp2_with (first | (go_at_call 22; (with_reducible refine (codes_eq vl ao4 ao5 cap4 b4 o4 cap5 b5 o5 _ (HS4.out.keeps (D5.out.trans D8.out)) (HS5.out.keeps D8.out)).mono ?_); rintro e w9 ⟨rfl, hk9⟩; have K9 := Lib.hid (K8.out.trans hk9); clear hk9) | (go_at_call 22; (with_reducible refine (codes_eq rl ao2 ao3 cap2 b2 o2 cap3 b3 o3 _ (HS2.out.keeps (D3.out.trans (D4.out.trans D5.out))) (HS3.out.keeps (D4.out.trans D5.out))).mono ?_); rintro e w8 ⟨rfl, hk8⟩; have K8 := Lib.hid (K5.out.trans hk8); have D8 := Lib.hid hk8; clear hk8) | (go_at_call 39; (with_reducible refine (HM4.out _ K4.out).mono ?_); rintro e w5 ⟨ao5, cap5, b5, o5, rfl, hs5, hk5⟩; have HS5 := Lib.hid hs5; have K5 := Lib.hid (K4.out.trans hk5); have D5 := Lib.hid hk5; clear hs5 hk5) | (go_at_call 38; (with_reducible refine (HM3.out _ K3.out).mono ?_); rintro e w4 ⟨ao4, cap4, b4, o4, rfl, hs4, hk4⟩; have HS4 := Lib.hid hs4; have K4 := Lib.hid (K3.out.trans hk4); have D4 := Lib.hid hk4; clear hs4 hk4) | (go_at_call 37; (with_reducible refine (HM2.out _ K2.out).mono ?_); rintro e w3 ⟨ao3, cap3, b3, o3, rfl, hs3, hk3⟩; have HS3 := Lib.hid hs3; have K3 := Lib.hid (K2.out.trans hk3); have D3 := Lib.hid hk3; clear hs3 hk3) | (go_at_call 36; (with_reducible refine (HM1.out _ K1.out).mono ?_); rintro e w2 ⟨ao2, cap2, b2, o2, rfl, hs2, hk2⟩; have HS2 := Lib.hid hs2; have K2 := Lib.hid (K1.out.trans hk2); have D2 := Lib.hid hk2; clear hs2 hk2) | (go_at_call 32; refine (cawake_any _).mono ?_; rintro e w1 ⟨rfl, hk1⟩; have K1 := Lib.hid hk1; clear hk1))
    go_ret
    exact ⟨rfl, K9.out⟩
  · have e1 : decide ((30 : Int) < (l.length : Int)) = true := decide_eq_true (by omega)
    go_enter Try.func14, Try.ntmps14
    go_wp2_with (go_at_call 32; refine (cawake_any _).mono ?_; rintro e w1 ⟨rfl, hk1⟩; have K1 := Lib.hid hk1; clear hk1)
    go_ret
    exact ⟨rfl, K1.out⟩
end Go.Proofs.Ytmlpdpacefnngaa
