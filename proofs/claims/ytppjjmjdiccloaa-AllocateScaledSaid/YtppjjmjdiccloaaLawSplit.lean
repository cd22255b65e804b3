/- AllocateSplit: the walk of the law. -/
import Derived.Test.YtppjjmjdiccloaaLawFirst
import Derived.Test.YtppjjmjdiccloaaRSplitW
namespace Go.Proofs.Ytppjjmjdiccloaa
open Go.RowKit
attribute [local go_sem ↓] Go.wp_at_zero Go.wp_at_succ

theorem split_ok (total : Int) (ws : List Int) (v : Value) (w : World) (h : IntL w v ws) (he : (wholeS total ws).2 = 0) :
    Calls Try.prog 12 #[.int .i64 total, v] w fun e w' => ∃ d, (Srt (rst (sgn total total) (lsum ws) ws) d 0 ws.length ∧ Same 0 ws.length (fun k => (k : Int)) d) ∧ OutN w ws.length (splitL total ws d) 0 e w' := by
  obtain ⟨ao, cap, b, o, rfl, hs⟩ := h
  refine (split_any total ws ao cap b o w hs).mono fun e w' h => ?_
  rw [SplitPost, if_pos he] at h
  obtain ⟨d, h1, h2, h3⟩ := h
  exact ⟨d, ⟨h1, h2⟩, h3.n (splitL_length _ _ _)⟩
theorem split_no (total : Int) (ws : List Int) (v : Value) (w : World) (h : IntL w v ws) (he : (wholeS total ws).2 ≠ 0) :
    Calls Try.prog 12 #[.int .i64 total, v] w fun e w' => OutL w [] (wholeS total ws).2 e w' := by
  obtain ⟨ao, cap, b, o, rfl, hs⟩ := h
  refine (split_any total ws ao cap b o w hs).mono fun e w' h => ?_
  rw [SplitPost, if_neg he] at h
  exact h

set_option maxHeartbeats 1000000 in
theorem lawSplit_any (total : Int) (ws : List Int) (ao : Option Addr) (cap b o : Nat) (w : World) (H : Sl w 1 ao ws.length cap b o (ws.map (.int .i64))) :
    Calls Try.prog 3 #[.int .i64 total, .slice ao ws.length cap] w fun e w' => e = .returned (.bool true) ∧ Keeps w w' := by
  have hcap := H.cap
  have hle := H.le
  by_cases hlen : ws.length ≤ 1100
  · by_cases he : (wholeS total ws).2 = 0
    · have HC := Lib.hid (fun v W h => split_ok total ws v W h he)
      have HR := Lib.hid (fun (d : Nat → Int) (W : World) (hW : Sl W 1 ao ws.length cap b o (ws.map (.int .i64))) (hd : Srt (rst (sgn total total) (lsum ws) ws) d 0 ws.length ∧ Same 0 ws.length (fun k => (k : Int)) d) => (rsplit_any total ws d ao cap b o W hW he hd.1 hd.2).mono fun e w' h => h.n (splitL_length total ws d))
      have HL := Lib.hid (splitL_length total ws)
      clear he
      have h1c : ∀ u ∈ ws.map (Value.int .i64), u.oneCell' = true := ints_oneCell _ _
      have H1C := Lib.hid h1c
      clear h1c
      go_enter Try.func3, Try.ntmps3
      go_wp2_with (first | (go_at_call 11; refine (awake_any _).mono ?_; rintro e w1 ⟨rfl, hk1⟩; have HD := Lib.hid (H.keeps hk1); have HK1 := Lib.hid hk1; clear hk1 H) | (at_builtin; go_loud (refine wpList_app_all elemInt rfl _ _ rfl w1 _ 0 [] rfl w1.heap.size (own_empty (Nat.le_refl _)) (by exact ((Below.refl _ w1).alloc (Nat.le_refl _) _)) (by simp) ao ws.length cap b o (ws.map (.int .i64)) (by rfl) (by exact HD.out.keeps ((Below.refl _ w1).alloc (Nat.le_refl _) _)) H1C.out (by omega) (by omega) ?_); intro v2 w2 hown2 hb2 hsz2; rw [Nat.zero_add, List.nil_append] at hown2; have HI := Lib.hid hown2; have HB2 := Lib.hid hb2; have HD2 := Lib.hid (HD.out.keeps hb2); clear hown2 hb2) | (go_at_call 12; refine (HC.out _ _ (IntL.own HI.out)).mono ?_; rintro e w3 ⟨d, hd, ao3, cap3, b3, o3, rfl, hs3, hk3⟩; have HD3 := HD2.out.keeps hk3; have HRR := Lib.hid (HR.out d _ HD3 hd); have HS3 : Hid (Sl w3 1 ao3 (splitL total ws d).length cap3 b3 o3 ((splitL total ws d).map (.int .i64))) := (by show Sl _ _ _ _ _ _ _ _; rw [HL.out]; exact hs3); have HK3 := Lib.hid ((HK1.out.trans HB2.out).trans hk3); clear hs3 hk3 HD3) | (go_at_call 13; refine HRR.out.mono ?_; rintro e w4 ⟨ao4, cap4, b4, o4, rfl, hs4, hk4⟩; have HS4 : Hid (Sl w4 1 ao4 (splitL total ws d).length cap4 b4 o4 ((splitL total ws d).map (.int .i64))) := (by show Sl _ _ _ _ _ _ _ _; rw [HL.out]; exact hs4); have hss : Calls Try.prog 14 #[.slice ao3 ws.length cap3, .slice ao4 ws.length cap4] w4 (fun e w' => Gives w4 (.bool true) e w') := (by have := same_any _ _ _ _ _ _ _ _ _ _ _ (HS3.out.keeps hk4) HS4.out; rw [HL.out] at this; simpa using this); have HSS := Lib.hid hss; have HK4 := Lib.hid (HK3.out.trans hk4); clear hs4 hk4 hss) | (go_at_call 14; refine HSS.out.mono ?_; rintro e w5 ⟨rfl, q5, rfl⟩))
      go_ret
      exact ⟨rfl, HK4.out.drewN _⟩
    · have HC := Lib.hid (fun v W h => split_no total ws v W h he)
      have HR := Lib.hid (fun (W : World) (hW : Sl W 1 ao ws.length cap b o (ws.map (.int .i64))) => rsplit_err total ws ao cap b o W hW he)
      clear he
      have h1c : ∀ u ∈ ws.map (Value.int .i64), u.oneCell' = true := ints_oneCell _ _
      have H1C := Lib.hid h1c
      clear h1c
      go_enter Try.func3, Try.ntmps3
      go_wp2_with (first | (go_at_call 11; refine (awake_any _).mono ?_; rintro e w1 ⟨rfl, hk1⟩; have HD := Lib.hid (H.keeps hk1); have HK1 := Lib.hid hk1; clear hk1 H) | (at_builtin; go_loud (refine wpList_app_all elemInt rfl _ _ rfl w1 _ 0 [] rfl w1.heap.size (own_empty (Nat.le_refl _)) (by exact ((Below.refl _ w1).alloc (Nat.le_refl _) _)) (by simp) ao ws.length cap b o (ws.map (.int .i64)) (by rfl) (by exact HD.out.keeps ((Below.refl _ w1).alloc (Nat.le_refl _) _)) H1C.out (by omega) (by omega) ?_); intro v2 w2 hown2 hb2 hsz2; rw [Nat.zero_add, List.nil_append] at hown2; have HI := Lib.hid hown2; have HB2 := Lib.hid hb2; have HD2 := Lib.hid (HD.out.keeps hb2); clear hown2 hb2) | (go_at_call 12; refine (HC.out _ _ (IntL.own HI.out)).mono ?_; rintro e w3 ⟨ao3, cap3, b3, o3, rfl, hs3, hk3⟩; have HD3 := HD2.out.keeps hk3; have HRR := Lib.hid (HR.out _ HD3); have HS3 := Lib.hid hs3; have HK3 := Lib.hid ((HK1.out.trans HB2.out).trans hk3); clear hs3 hk3 HD3) | (go_at_call 13; refine HRR.out.mono ?_; rintro e w4 ⟨ao4, cap4, b4, o4, rfl, hs4, hk4⟩; have hss : Calls Try.prog 14 #[.slice ao3 0 cap3, .slice ao4 0 cap4] w4 (fun e w' => Gives w4 (.bool true) e w') := (by have := same_any _ _ _ _ _ _ _ _ _ _ _ (HS3.out.keeps hk4) hs4; simpa using this); have HSS := Lib.hid hss; have HK4 := Lib.hid (HK3.out.trans hk4); clear hs4 hk4 hss) | (go_at_call 14; refine HSS.out.mono ?_; rintro e w5 ⟨rfl, q5, rfl⟩))
      go_ret
      exact ⟨rfl, HK4.out.drewN _⟩
  · go_enter Try.func3, Try.ntmps3
    go_wp2_with (go_at_call 11; refine (awake_any _).mono ?_; rintro e w1 ⟨rfl, hk1⟩)
    go_ret
    exact ⟨rfl, hk1⟩
end Go.Proofs.Ytppjjmjdiccloaa
