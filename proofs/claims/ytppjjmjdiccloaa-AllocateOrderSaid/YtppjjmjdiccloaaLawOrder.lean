/- AllocateOrder: the walk of the law. -/
import Derived.Test.YtppjjmjdiccloaaLawFirst
import Derived.Test.YtppjjmjdiccloaaSplitN
import Derived.Test.YtppjjmjdiccloaaOrderP
namespace Go.Proofs.Ytppjjmjdiccloaa
open Go.RowKit

set_option maxRecDepth 100000 in
set_option maxHeartbeats 1000000 in
theorem lawOrder_any (total : Int) (ws : List Int) (ao : Option Addr) (cap b o : Nat) (w : World) (H : Sl w 1 ao ws.length cap b o (ws.map (.int .i64))) :
    Calls Try.prog 4 #[.int .i64 total, .slice ao ws.length cap] w fun e w' => e = .returned (.bool true) ∧ Keeps w w' := by
  have hcap := H.cap
  have hle := H.le
  by_cases hlen : ws.length ≤ 100
  · by_cases he : (wholeS total ws).2 = 0
    · by_cases hneg : total < 0
      · have HC : Hid (∀ W, Sl W 1 ao ws.length cap b o (ws.map (.int .i64)) → Calls Try.prog 12 #[.int .i64 total, .slice ao ws.length cap] W fun e w' => ∃ xs, OutL W xs 0 e w') := by
          intro W hW
          refine (split_any total ws ao cap b o W hW).mono fun e w' h => ?_
          rw [SplitPost, if_pos he] at h
          obtain ⟨d, _, _, h3⟩ := h
          exact ⟨_, h3⟩
        clear he
        go_enter Try.func4, Try.ntmps4
        go_wp2_with (first | (go_at_call 11; refine (awake_any _).mono ?_; rintro e w1 ⟨rfl, hk1⟩) | (go_at_call 12; refine (HC.out _ (H.keeps hk1)).mono ?_; rintro e w2 ⟨xs, ao2, cap2, b2, o2, rfl, hs2, hk2⟩))
        go_ret
        exact ⟨rfl, hk1.trans hk2⟩
      · have hsg : sgn total total = total := by rw [sgn, if_neg hneg]
        have HC : Hid (∀ W, Sl W 1 ao ws.length cap b o (ws.map (.int .i64)) → Calls Try.prog 12 #[.int .i64 total, .slice ao ws.length cap] W fun e w' => ∃ xs : List Int, PartOrder ws xs ∧ OutN W ws.length xs 0 e w') := by
          intro W hW
          refine (split_any total ws ao cap b o W hW).mono fun e w' h => ?_
          rw [SplitPost, if_pos he, hsg] at h
          obtain ⟨d, h1, h2, h3⟩ := h
          exact ⟨_, split_order hneg (wholeS_ok he).1 h1 h2, h3.n (splitL_length _ _ _)⟩
        have HW := Lib.hid (wholeS_ok he).1.w
        clear he hsg
        go_enter Try.func4, Try.ntmps4
        go_wp2_with (first | (go_at_call 11; refine (awake_any _).mono ?_; rintro e w1 ⟨rfl, hk1⟩) | (go_at_call 12; refine (HC.out _ (H.keeps hk1)).mono ?_; rintro e w2 ⟨xs, hpo, ao2, cap2, b2, o2, rfl, hs2, hk2⟩))
        have hx := hpo.len
        have HX := Lib.hid hx
        have hs2' : Sl w2 1 ao2 xs.length cap2 b2 o2 (xs.map (.int .i64)) := by rw [hx]; exact hs2
        have HS2 := Lib.hid hs2
        have HX2 := Lib.hid hs2'
        have HWS := Lib.hid (H.keeps (hk1.trans hk2))
        have HPO := Lib.hid hpo
        have K2 := Lib.hid (hk1.trans hk2)
        have hle3 := hs2.le
        have hcap3 := hs2.cap
        clear hs2 hs2' hk2 hk1 H hpo hx
        go_loopg [7] ws.length (fun g vi wr => ∃ i q : Nat, vi = .int .i64 i ∧ i ≤ ws.length ∧ ws.length - i ≤ g ∧ wr = w2.drewN q)
        case atStart => exact ⟨0, 0, rfl, Nat.zero_le _, Nat.le_refl _, rfl⟩
        case round =>
          obtain ⟨i, q, rfl, hin, hg, rfl⟩ := hrel
          by_cases hlt : i < ws.length
          · have hxi : i < xs.length := by rw [HX.out]; exact hlt
            have hixw := HWS.out.at1 Try.underlying22 Try.sizeOf3 i hlt
            have hixx := HS2.out.at1 Try.underlying22 Try.sizeOf3 i hlt
            have hcw := HWS.out.int i hlt
            have hcx := HX2.out.int i hxi
            have bi := HPO.out.bd i hxi
            go_wp2
            go_loopg [8] ws.length (fun g vk wr => ∃ k q : Nat, vk = .int .i64 k ∧ i + 1 ≤ k ∧ k ≤ ws.length ∧ ws.length - k ≤ g ∧ wr = w2.drewN q)
            case atStart => exact ⟨i + 1, q, by go_num, Nat.le_refl _, by omega, by omega, rfl⟩
            case round =>
              obtain ⟨k, q2, rfl, hik, hkn, hg2, rfl⟩ := hrel
              by_cases hlt2 : k < ws.length
              · have hxk : k < xs.length := by rw [HX.out]; exact hlt2
                have hixw2 := HWS.out.at1 Try.underlying22 Try.sizeOf3 k hlt2
                have hixx2 := HS2.out.at1 Try.underlying22 Try.sizeOf3 k hlt2
                have hcw2 := HWS.out.int k hlt2
                have hcx2 := HX2.out.int k hxk
                have bk := HPO.out.bd k hxk
                have HK := Lib.hid (HPO.out.same i k hlt hlt2 hxi hxk (by omega))
                have HM := Lib.hid (HPO.out.more i k hlt hlt2 hxi hxk)
                have HM2 := Lib.hid (HPO.out.more k i hlt2 hlt hxk hxi)
                rcases Int.lt_trichotomy ws[k] ws[i] with hc | hc | hc
                · have hm := HM.out hc
                  have e1 : decide (ws[k] < ws[i]) = true := by simp; omega
                  have e2 : decide (xs[i] - xs[k] < 0) = false := by simp; omega
                  have e3 : decide (ws[i] < ws[k]) = false := by simp; omega
                  have e4 : (ws[i] == ws[k]) = false := beq_eq_false_iff_ne.2 (by omega)
                  clear hc hm
                  clear HK HM HM2
                  go_wp2
                  go_quiet (fail)
                  go_wp2_with fail
                  go_quiet (fail)
                  go_wp2_with fail
                  go_roundg (ws.length - (k + 1))
                  case measure => omega
                  case rel => exact ⟨k + 1, _, by go_num, by omega, by omega, by omega, rfl⟩
                · have e1 : decide (ws[k] < ws[i]) = false := by simp; omega
                  have e3 : decide (ws[i] < ws[k]) = false := by simp; omega
                  have e4 : (ws[i] == ws[k]) = true := by simp; omega
                  have hs := HK.out hc.symm
                  clear hc
                  rcases hs with hs | hs
                  · have e5 : (xs[i] - xs[k] != 0) = false := by simp [hs]
                    clear hs
                    clear HK HM HM2
                    go_wp2
                    go_quiet (fail)
                    go_wp2_with fail
                    go_quiet (fail)
                    go_wp2_with fail
                    go_roundg (ws.length - (k + 1))
                    case measure => omega
                    case rel => exact ⟨k + 1, _, by go_num, by omega, by omega, by omega, rfl⟩
                  · have e5 : (xs[i] - xs[k] != 0) = true := by simp [hs]
                    have e6 : (xs[i] - xs[k] != 1) = false := by simp [hs]
                    clear hs
                    clear HK HM HM2
                    go_wp2
                    go_quiet (fail)
                    go_wp2_with fail
                    go_quiet (fail)
                    go_wp2_with fail
                    go_roundg (ws.length - (k + 1))
                    case measure => omega
                    case rel => exact ⟨k + 1, _, by go_num, by omega, by omega, by omega, rfl⟩
                · have hm := HM2.out hc
                  have e1 : decide (ws[k] < ws[i]) = false := by simp; omega
                  have e2 : decide (ws[i] < ws[k]) = true := by simp; omega
                  have e3 : decide (0 < xs[i] - xs[k]) = false := by simp; omega
                  have e5 : decide (xs[k] < xs[i]) = false := by simp; omega
                  have e4 : (ws[i] == ws[k]) = false := beq_eq_false_iff_ne.2 (by omega)
                  clear hc hm
                  clear HK HM HM2
                  go_wp2
                  go_quiet (fail)
                  go_wp2_with fail
                  go_quiet (fail)
                  go_wp2_with fail
                  go_roundg (ws.length - (k + 1))
                  case measure => omega
                  case rel => exact ⟨k + 1, _, by go_num, by omega, by omega, by omega, rfl⟩
              · by_cases hz : ws[i] = 0
                · have hzx := HPO.out.zero i hlt hxi hz
                  have e1 : (ws[i] == 0) = true := by simp [hz]
                  have e2 : (xs[i] != 0) = false := by simp [hzx]
                  clear hz hzx
                  go_wp2
                  go_roundg (ws.length - (i + 1))
                  case measure => omega
                  case rel => exact ⟨i + 1, _, by go_num, by omega, by omega, rfl⟩
                · have e1 : (ws[i] == 0) = false := by simp [hz]
                  clear hz
                  go_wp2
                  go_roundg (ws.length - (i + 1))
                  case measure => omega
                  case rel => exact ⟨i + 1, _, by go_num, by omega, by omega, rfl⟩
          · go_wp2_with fail
            go_ret
            exact ⟨rfl, K2.out.drewN _⟩
    · have HC : Hid (∀ W, Sl W 1 ao ws.length cap b o (ws.map (.int .i64)) → Calls Try.prog 12 #[.int .i64 total, .slice ao ws.length cap] W fun e w' => OutL W [] (wholeS total ws).2 e w') := by
        intro W hW
        refine (split_any total ws ao cap b o W hW).mono fun e w' h => ?_
        rw [SplitPost, if_neg he] at h
        exact h
      have hb : ((wholeS total ws).2 != 0) = true := by simp [he]
      clear he
      go_enter Try.func4, Try.ntmps4
      go_wp2_with (first | (go_at_call 11; refine (awake_any _).mono ?_; rintro e w1 ⟨rfl, hk1⟩) | (go_at_call 12; refine (HC.out _ (H.keeps hk1)).mono ?_; rintro e w2 ⟨ao2, cap2, b2, o2, rfl, hs2, hk2⟩))
      go_ret
      exact ⟨rfl, hk1.trans hk2⟩
  · go_enter Try.func4, Try.ntmps4
    go_wp2_with (go_at_call 11; refine (awake_any _).mono ?_; rintro e w1 ⟨rfl, hk1⟩)
    go_ret
    exact ⟨rfl, hk1⟩
end Go.Proofs.Ytppjjmjdiccloaa
