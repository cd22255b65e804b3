/- AllocateFair: the walk of the law. -/
import Derived.Test.YtppjjmjdiccloaaLawSplit
import Derived.Test.YtppjjmjdiccloaaRFairW
import Derived.Test.YtppjjmjdiccloaaFairS
namespace Go.Proofs.Ytppjjmjdiccloaa
open Go.RowKit
attribute [local go_sem ↓] Go.wp_at_zero Go.wp_at_succ

set_option maxHeartbeats 1000000 in
theorem lawFair_any (total : Int) (ws ps : List Int) (ao : Option Addr) (cap b o : Nat) (ao2 : Option Addr) (cap2 b2 o2 : Nat) (w : World) (H : Sl w 1 ao ws.length cap b o (ws.map (.int .i64))) (H2 : Sl w 1 ao2 ps.length cap2 b2 o2 (ps.map (.int .i64))) :
    Calls Try.prog 6 #[.int .i64 total, .slice ao ws.length cap, .slice ao2 ps.length cap2] w fun e w' => e = .returned (.bool true) ∧ Keeps w w' := by
  have hcap := H.cap
  have hle := H.le
  have hcap2 := H2.cap
  have hle2 := H2.le
  by_cases hlen : ws.length ≤ 300
  · by_cases hlen2 : ps.length ≤ 300
    · by_cases he : (wholeS total ws).2 = 0
      · have HC := Lib.hid (fun v W h => split_ok total ws v W h he)
        have HFS := Lib.hid (fun (d : Nat → Int) (hd : Srt (rst (sgn total total) (lsum ws) ws) d 0 ws.length ∧ Same 0 ws.length (fun k => (k : Int)) d) => fair_split he hd.1 hd.2)
        have HL := Lib.hid (splitL_length total ws)
        clear he
        go_enter Try.func6, Try.ntmps6
        go_wp2_with (first | (go_at_call 11; refine (awake_any _).mono ?_; rintro e w1 ⟨rfl, hk1⟩; have HD := Lib.hid (H.keeps hk1); have HP := Lib.hid (H2.keeps hk1); have HK1 := Lib.hid hk1; clear hk1) | (go_at_call 12; refine (HC.out _ _ (IntL.of HD.out)).mono ?_; rintro e w3 ⟨d, hd, ao3, cap3, b3, o3, rfl, hs3, hk3⟩; have HD3 := Lib.hid (HD.out.keeps hk3); have HP3 := Lib.hid (HP.out.keeps hk3); have HT := Lib.hid (HFS.out d hd); have HK3 := Lib.hid (HK1.out.trans hk3); have HS3 : Hid (Sl w3 1 ao3 (splitL total ws d).length cap3 b3 o3 ((splitL total ws d).map (.int .i64))) := (by show Sl _ _ _ _ _ _ _ _; rw [HL.out]; exact hs3); have HX1 : Hid (∀ q W, W = w3.drewN q → Calls Try.prog 15 #[.int .i64 total, .slice ao ws.length cap, .slice ao3 ws.length cap3] W fun e w' => Gives W (.bool true) e w') := (by rintro q W rfl; have hW : Keeps w3 (w3.drewN q) := (Keeps.refl _).drewN q; have := fair_any total ws _ _ _ _ _ _ _ _ _ _ (HD3.out.keeps hW) (HS3.out.keeps hW); rw [HT.out, HL.out] at this; exact this); have HX2 : Hid (∀ q W, W = w3.drewN q → Calls Try.prog 16 #[.int .i64 total, .slice ao ws.length cap, .slice ao3 ws.length cap3] W fun e w' => Gives W (.bool true) e w') := (by rintro q W rfl; have hW : Keeps w3 (w3.drewN q) := (Keeps.refl _).drewN q; have := rfair_any total ws _ _ _ _ _ _ _ _ _ _ (HD3.out.keeps hW) (HS3.out.keeps hW); rw [HT.out, HL.out] at this; exact this); have HY1 := Lib.hid (fair_any total ws ps ao cap b o ao2 cap2 b2 o2 w3 HD3.out HP3.out); have HY2 : Hid (∀ q W, W = w3.drewN q → Calls Try.prog 16 #[.int .i64 total, .slice ao ws.length cap, .slice ao2 ps.length cap2] W fun e w' => Gives W (.bool (fairS total ws ps)) e w') := (by rintro q W rfl; exact rfair_any total ws ps ao cap b o ao2 cap2 b2 o2 _ (HD3.out.drewN q) (HP3.out.drewN q)); clear hs3 hk3 hd) | (go_at_call 15; (with_reducible refine HY1.out.mono ?_); rintro e w4 ⟨rfl, q4, rfl⟩) | (go_at_call 15; (with_reducible refine (HX1.out _ _ rfl).mono ?_); rintro e w4 ⟨rfl, q4, rfl⟩) | (go_at_call 16; (with_reducible refine (HY2.out _ _ rfl).mono ?_); rintro e w4 ⟨rfl, q4, rfl⟩) | (go_at_call 16; (with_reducible refine (HX2.out _ _ rfl).mono ?_); rintro e w4 ⟨rfl, q4, rfl⟩))
        go_ret
        exact ⟨by simp, HK3.out.drewN _⟩
      · have HC := Lib.hid (fun v W h => split_no total ws v W h he)
        have hb : ((wholeS total ws).2 != 0) = true := by simp [he]
        clear he
        go_enter Try.func6, Try.ntmps6
        go_wp2_with (first | (go_at_call 11; refine (awake_any _).mono ?_; rintro e w1 ⟨rfl, hk1⟩; have HD := Lib.hid (H.keeps hk1); have HP := Lib.hid (H2.keeps hk1); have HK1 := Lib.hid hk1; clear hk1) | (go_at_call 12; refine (HC.out _ _ (IntL.of HD.out)).mono ?_; rintro e w3 ⟨ao3, cap3, b3, o3, rfl, hs3, hk3⟩; have HD3 := Lib.hid (HD.out.keeps hk3); have HP3 := Lib.hid (HP.out.keeps hk3); have HK3 := Lib.hid (HK1.out.trans hk3); have HY1 := Lib.hid (fair_any total ws ps ao cap b o ao2 cap2 b2 o2 w3 HD3.out HP3.out); have HY2 : Hid (∀ q W, W = w3.drewN q → Calls Try.prog 16 #[.int .i64 total, .slice ao ws.length cap, .slice ao2 ps.length cap2] W fun e w' => Gives W (.bool (fairS total ws ps)) e w') := (by rintro q W rfl; exact rfair_any total ws ps ao cap b o ao2 cap2 b2 o2 _ (HD3.out.drewN q) (HP3.out.drewN q)); clear hs3 hk3) | (go_at_call 15; (with_reducible refine HY1.out.mono ?_); rintro e w4 ⟨rfl, q4, rfl⟩) | (go_at_call 16; (with_reducible refine (HY2.out _ _ rfl).mono ?_); rintro e w4 ⟨rfl, q4, rfl⟩))
        go_ret
        exact ⟨by simp, HK3.out.drewN _⟩
    · go_enter Try.func6, Try.ntmps6
      go_wp2_with (go_at_call 11; refine (awake_any _).mono ?_; rintro e w1 ⟨rfl, hk1⟩)
      go_ret
      exact ⟨rfl, hk1⟩
  · go_enter Try.func6, Try.ntmps6
    go_wp2_with (go_at_call 11; refine (awake_any _).mono ?_; rintro e w1 ⟨rfl, hk1⟩)
    go_ret
    exact ⟨rfl, hk1⟩
end Go.Proofs.Ytppjjmjdiccloaa
