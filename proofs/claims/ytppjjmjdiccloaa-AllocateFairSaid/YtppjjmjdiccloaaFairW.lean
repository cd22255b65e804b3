/- Fair: the program's and the reference's: the walks. -/
import Derived.Test.YtppjjmjdiccloaaFairP
import Derived.Test.YtppjjmjdiccloaaCheck
namespace Go.Proofs.Ytppjjmjdiccloaa
open Go.RowKit

set_option maxHeartbeats 1000000 in
theorem fair_any (total : Int) (ws ps : List Int) (ao : Option Addr) (cap b o : Nat) (ao2 : Option Addr) (cap2 b2 o2 : Nat) (w : World) (H : Sl w 1 ao ws.length cap b o (ws.map (.int .i64))) (H2 : Sl w 1 ao2 ps.length cap2 b2 o2 (ps.map (.int .i64))) :
    Calls Try.prog 15 #[.int .i64 total, .slice ao ws.length cap, .slice ao2 ps.length cap2] w fun e w' => Gives w (.bool (fairS total ws ps)) e w' := by
  have hcap := H.cap
  have hle := H.le
  have hcap2 := H2.cap
  have hle2 := H2.le
  by_cases he : (wholeS total ws).2 = 0
  · by_cases hl : ps.length = ws.length
    · obtain ⟨hW, hE⟩ := wholeS_ok he
      have hE1 : (wholeS total ws).1 = lsum ws := by rw [hE]
      have ht := amt_true.1 hW.ht
      have hs1 := hW.hs
      have hs2 := hW.hs2
      have hl1 := hW.h1
      have hl2 := hW.h2
      have HW := Lib.hid hW
      have HE := Lib.hid he
      have hbl : ((ps.length : Int) != (ws.length : Int)) = false := by simp [hl]
      have HLN := Lib.hid hl
      have hll : ps.length ≤ ws.length := by omega
      have hll2 : ws.length ≤ ps.length := by omega
      clear hE hW hl
      go_enter Try.func15, Try.ntmps15
      by_cases hn : total < 0
      · go_wp2_with (go_at_call 22; refine (whole_any _ ws ao cap b o _ H).mono ?_; rintro e w' ⟨rfl, rfl⟩)
        have hsg : sgn total total = (-total) := by unfold sgn; rw [if_pos (show total < 0 by omega)]
        have hsx : ∀ x, sgn total x = -x := fun x => by unfold sgn; rw [if_pos (show total < 0 by omega)]
        have HSG := Lib.hid hsg
        have HSX := Lib.hid hsx
        have hB := Lib.hid (lef_bd (abs := (-total)) (ws := ws) (by omega) HW.out.w hs1 hl1)
        have hta : 0 ≤ (-total) ∧ (-total) ≤ 1000000000000 := by omega
        clear hsg hsx
        go_loopw [11, 42] (fun vl vi wr => ∃ k q : Nat, k ≤ ps.length ∧ vi = .int .i64 k ∧ vl = .int .i64 ((-total) - sgn total (lsum (ps.take k))) ∧ wr = w.drewN q ∧ Hid (fokTo total ws ps k)) (fun _ vi _ => ps.length - (intOf vi).toNat)
        case atStart => exact ⟨0, 0, Nat.zero_le _, rfl, by simp [lsum, sgn], rfl, fun v _ h => by omega⟩
        case round =>
          obtain ⟨k, q, hk, rfl, rfl, rfl, HF⟩ := hrel
          have hbd := left_bd k hk HF.out
          rw [HSG.out] at hbd
          have hl0 := hB.out.2.2 k (by omega)
          by_cases hlt : k < ps.length
          · have hlw : k < ws.length := by omega
            have hix := H.at1 Try.underlying22 Try.sizeOf3 k hlw
            have hix2 := H2.at1 Try.underlying22 Try.sizeOf3 k hlt
            have hcell := H.int k hlw
            have hcell2 := H2.int k hlt
            have hw := HW.out.w _ (List.getElem_mem hlw)
            have hmul : 0 ≤ (-total) * ws[k] ∧ (-total) * ws[k] ≤ 1000000000000000000 := ⟨Int.mul_nonneg (by omega) hw.1, by
              have := Int.mul_le_mul hta.2 hw.2 hw.1 (by omega)
              omega⟩
            have hq0 : 0 ≤ (-total) * ws[k] / lsum ws := Int.ediv_nonneg hmul.1 (by omega)
            have hq1 : (-total) * ws[k] / lsum ws ≤ 1000000000000000000 := Int.le_trans (Int.ediv_le_self _ hmul.1) hmul.2
            have eb : bas (-total) (lsum ws) ws k = (-total) * ws[k] / lsum ws := by unfold bas; rw [List.getD_eq_getElem?_getD, List.getElem?_eq_getElem hlw]; rfl
            have er : rsn (-total) (lsum ws) ws k = (-total) * ws[k] % lsum ws := by unfold rsn; rw [List.getD_eq_getElem?_getD, List.getElem?_eq_getElem hlw]; rfl
            have hfk : fok total ws k ps[k] ↔ (ps[k] = -((-total) * ws[k] / lsum ws) ∨ ((-total) * ws[k] % lsum ws ≠ 0 ∧ ps[k] = -((-total) * ws[k] / lsum ws + 1))) := by
              unfold fok
              rw [HSX.out, HSX.out, HSX.out, eb, er]
            have HLT := Lib.hid (lsum_take ps k hlt)
            have HFK := Lib.hid hfk
            have hr0 := Int.emod_nonneg ((-total) * ws[k]) (show lsum ws ≠ 0 by omega)
            have hr1 := Int.emod_lt_of_pos ((-total) * ws[k]) (show 0 < lsum ws by omega)
            rw [HSX.out] at hbd
            clear hfk er eb hw
            rw [HSX.out]
            by_cases c1 : ps[k] = (-((-total) * ws[k] / lsum ws))
            · have HFN := Lib.hid (fokTo_succ HF.out hlt (HFK.out.2 (.inl c1)))
              have e1 : (ps[k] != (-((-total) * ws[k] / lsum ws))) = false := by simp [c1]
              have hpb : -1000000000000000001 ≤ ps[k] ∧ ps[k] ≤ 1000000000000000001 := by omega
              clear c1
              go_wp2
              go_quiet (fail)
              go_wp2_with fail
              go_roundw
              case rel => exact ⟨k + 1, _, by omega, by go_num, by rw [HLT.out]; congr 1; rw [HSX.out]; omega, rfl, HFN.out⟩
              case measure => simp [intOf]; omega
            · have e1 : (ps[k] != (-((-total) * ws[k] / lsum ws))) = true := by simp [c1]
              by_cases c2 : (-total) * ws[k] % lsum ws = 0
              · have e2 : ((-total) * ws[k] % lsum ws == 0) = true := by simp [c2]
                have HFF := Lib.hid (fairS_part hlt (fun h => by rcases HFK.out.1 h with h | h; exact c1 h; exact h.1 c2))
                clear c1 c2
                go_wp2
                go_quiet (fail)
                go_wp2_with fail
                go_ret
                exact ⟨by rw [HFF.out]; rfl, _, rfl⟩
              · have e2 : ((-total) * ws[k] % lsum ws == 0) = false := by simp [c2]
                by_cases c3 : ps[k] = (-((-total) * ws[k] / lsum ws + 1))
                · have HFN := Lib.hid (fokTo_succ HF.out hlt (HFK.out.2 (.inr ⟨c2, c3⟩)))
                  have e3 : (ps[k] != (-((-total) * ws[k] / lsum ws + 1))) = false := by simp [c3]
                  have hpb : -1000000000000000001 ≤ ps[k] ∧ ps[k] ≤ 1000000000000000001 := by omega
                  clear c1 c2 c3
                  go_wp2
                  go_quiet (fail)
                  go_wp2_with fail
                  go_roundw
                  case rel => exact ⟨k + 1, _, by omega, by go_num, by rw [HLT.out]; congr 1; rw [HSX.out]; omega, rfl, HFN.out⟩
                  case measure => simp [intOf]; omega
                · have e3 : (ps[k] != (-((-total) * ws[k] / lsum ws + 1))) = true := by simp [c3]
                  have HFF := Lib.hid (fairS_part hlt (fun h => by rcases HFK.out.1 h with h | h; exact c1 h; exact c3 h.2))
                  clear c1 c2 c3
                  go_wp2
                  go_quiet (fail)
                  go_wp2_with fail
                  go_ret
                  exact ⟨by rw [HFF.out]; rfl, _, rfl⟩
          · obtain rfl : k = ps.length := by omega
            rw [List.take_length] at *
            by_cases c1 : (-total) - sgn total (lsum ps) = 0
            · have HT := Lib.hid (fairS_true HE.out HLN.out HF.out (by rw [HSG.out]; exact c1))
              have e1 : (-total + lsum ps == 0) = true := beq_iff_eq.2 (by rw [HSX.out] at c1; omega)
              rw [HSX.out] at hbd ⊢
              clear c1
              go_wp2
              go_ret
              exact ⟨by rw [HT.out]; rfl, _, rfl⟩
            · have HT := Lib.hid (fairS_sum (ws := ws) (show ¬ sgn total total - sgn total (lsum ps) = 0 by rw [HSG.out]; exact c1))
              have e1 : (-total + lsum ps == 0) = false := beq_eq_false_iff_ne.2 (by rw [HSX.out] at c1; omega)
              rw [HSX.out] at hbd ⊢
              clear c1
              go_wp2
              go_ret
              exact ⟨by rw [HT.out]; rfl, _, rfl⟩
      · go_wp2_with (go_at_call 22; refine (whole_any _ ws ao cap b o _ H).mono ?_; rintro e w' ⟨rfl, rfl⟩)
        have hsg : sgn total total = total := by unfold sgn; rw [if_neg (show ¬ total < 0 by omega)]
        have hsx : ∀ x, sgn total x = x := fun x => by unfold sgn; rw [if_neg (show ¬ total < 0 by omega)]
        have HSG := Lib.hid hsg
        have HSX := Lib.hid hsx
        have hB := Lib.hid (lef_bd (abs := total) (ws := ws) (by omega) HW.out.w hs1 hl1)
        have hta : 0 ≤ total ∧ total ≤ 1000000000000 := by omega
        clear hsg hsx
        go_loopw [11, 42] (fun vl vi wr => ∃ k q : Nat, k ≤ ps.length ∧ vi = .int .i64 k ∧ vl = .int .i64 (total - sgn total (lsum (ps.take k))) ∧ wr = w.drewN q ∧ Hid (fokTo total ws ps k)) (fun _ vi _ => ps.length - (intOf vi).toNat)
        case atStart => exact ⟨0, 0, Nat.zero_le _, rfl, by simp [lsum, sgn], rfl, fun v _ h => by omega⟩
        case round =>
          obtain ⟨k, q, hk, rfl, rfl, rfl, HF⟩ := hrel
          have hbd := left_bd k hk HF.out
          rw [HSG.out] at hbd
          have hl0 := hB.out.2.2 k (by omega)
          by_cases hlt : k < ps.length
          · have hlw : k < ws.length := by omega
            have hix := H.at1 Try.underlying22 Try.sizeOf3 k hlw
            have hix2 := H2.at1 Try.underlying22 Try.sizeOf3 k hlt
            have hcell := H.int k hlw
            have hcell2 := H2.int k hlt
            have hw := HW.out.w _ (List.getElem_mem hlw)
            have hmul : 0 ≤ total * ws[k] ∧ total * ws[k] ≤ 1000000000000000000 := ⟨Int.mul_nonneg (by omega) hw.1, by
              have := Int.mul_le_mul hta.2 hw.2 hw.1 (by omega)
              omega⟩
            have hq0 : 0 ≤ total * ws[k] / lsum ws := Int.ediv_nonneg hmul.1 (by omega)
            have hq1 : total * ws[k] / lsum ws ≤ 1000000000000000000 := Int.le_trans (Int.ediv_le_self _ hmul.1) hmul.2
            have eb : bas total (lsum ws) ws k = total * ws[k] / lsum ws := by unfold bas; rw [List.getD_eq_getElem?_getD, List.getElem?_eq_getElem hlw]; rfl
            have er : rsn total (lsum ws) ws k = total * ws[k] % lsum ws := by unfold rsn; rw [List.getD_eq_getElem?_getD, List.getElem?_eq_getElem hlw]; rfl
            have hfk : fok total ws k ps[k] ↔ (ps[k] = total * ws[k] / lsum ws ∨ (total * ws[k] % lsum ws ≠ 0 ∧ ps[k] = total * ws[k] / lsum ws + 1)) := by
              unfold fok
              rw [HSX.out, HSX.out, HSX.out, eb, er]
            have HLT := Lib.hid (lsum_take ps k hlt)
            have HFK := Lib.hid hfk
            have hr0 := Int.emod_nonneg (total * ws[k]) (show lsum ws ≠ 0 by omega)
            have hr1 := Int.emod_lt_of_pos (total * ws[k]) (show 0 < lsum ws by omega)
            rw [HSX.out] at hbd
            clear hfk er eb hw
            rw [HSX.out]
            by_cases c1 : ps[k] = total * ws[k] / lsum ws
            · have HFN := Lib.hid (fokTo_succ HF.out hlt (HFK.out.2 (.inl c1)))
              have e1 : (ps[k] != total * ws[k] / lsum ws) = false := by simp [c1]
              have hpb : -1000000000000000001 ≤ ps[k] ∧ ps[k] ≤ 1000000000000000001 := by omega
              clear c1
              go_wp2
              go_quiet (fail)
              go_wp2_with fail
              go_roundw
              case rel => exact ⟨k + 1, _, by omega, by go_num, by rw [HLT.out]; congr 1; rw [HSX.out]; omega, rfl, HFN.out⟩
              case measure => simp [intOf]; omega
            · have e1 : (ps[k] != total * ws[k] / lsum ws) = true := by simp [c1]
              by_cases c2 : total * ws[k] % lsum ws = 0
              · have e2 : (total * ws[k] % lsum ws == 0) = true := by simp [c2]
                have HFF := Lib.hid (fairS_part hlt (fun h => by rcases HFK.out.1 h with h | h; exact c1 h; exact h.1 c2))
                clear c1 c2
                go_wp2
                go_quiet (fail)
                go_wp2_with fail
                go_ret
                exact ⟨by rw [HFF.out]; rfl, _, rfl⟩
              · have e2 : (total * ws[k] % lsum ws == 0) = false := by simp [c2]
                by_cases c3 : ps[k] = (total * ws[k] / lsum ws + 1)
                · have HFN := Lib.hid (fokTo_succ HF.out hlt (HFK.out.2 (.inr ⟨c2, c3⟩)))
                  have e3 : (ps[k] != (total * ws[k] / lsum ws + 1)) = false := by simp [c3]
                  have hpb : -1000000000000000001 ≤ ps[k] ∧ ps[k] ≤ 1000000000000000001 := by omega
                  clear c1 c2 c3
                  go_wp2
                  go_quiet (fail)
                  go_wp2_with fail
                  go_roundw
                  case rel => exact ⟨k + 1, _, by omega, by go_num, by rw [HLT.out]; congr 1; rw [HSX.out]; omega, rfl, HFN.out⟩
                  case measure => simp [intOf]; omega
                · have e3 : (ps[k] != (total * ws[k] / lsum ws + 1)) = true := by simp [c3]
                  have HFF := Lib.hid (fairS_part hlt (fun h => by rcases HFK.out.1 h with h | h; exact c1 h; exact c3 h.2))
                  clear c1 c2 c3
                  go_wp2
                  go_quiet (fail)
                  go_wp2_with fail
                  go_ret
                  exact ⟨by rw [HFF.out]; rfl, _, rfl⟩
          · obtain rfl : k = ps.length := by omega
            rw [List.take_length] at *
            by_cases c1 : total - sgn total (lsum ps) = 0
            · have HT := Lib.hid (fairS_true HE.out HLN.out HF.out (by rw [HSG.out]; exact c1))
              have e1 : (total - sgn total (lsum ps) == 0) = true := by simp [c1]
              rw [HSX.out] at e1 hbd ⊢
              clear c1
              go_wp2
              go_ret
              exact ⟨by rw [HT.out]; rfl, _, rfl⟩
            · have HT := Lib.hid (fairS_sum (ws := ws) (show ¬ sgn total total - sgn total (lsum ps) = 0 by rw [HSG.out]; exact c1))
              have e1 : (total - sgn total (lsum ps) == 0) = false := by simp [c1]
              rw [HSX.out] at e1 hbd ⊢
              clear c1
              go_wp2
              go_ret
              exact ⟨by rw [HT.out]; rfl, _, rfl⟩
    · have HF := Lib.hid (fairS_len (total := total) hl)
      have hbl : ((ps.length : Int) != (ws.length : Int)) = true := by simp; omega
      have hb : ((wholeS total ws).2 != 0) = false := by simp [he]
      clear hl he
      go_enter Try.func15, Try.ntmps15
      go_wp2_with (go_at_call 22; refine (whole_any _ ws ao cap b o _ H).mono ?_; rintro e w' ⟨rfl, rfl⟩)
      go_ret
      exact ⟨by rw [HF.out]; rfl, 0, rfl⟩
  · have HF := Lib.hid (fairS_err (ps := ps) he)
    have hb : ((wholeS total ws).2 != 0) = true := by simp [he]
    clear he
    go_enter Try.func15, Try.ntmps15
    go_wp2_with (go_at_call 22; refine (whole_any _ ws ao cap b o _ H).mono ?_; rintro e w' ⟨rfl, rfl⟩)
    go_ret
    exact ⟨by rw [HF.out]; rfl, 0, rfl⟩
end Go.Proofs.Ytppjjmjdiccloaa
