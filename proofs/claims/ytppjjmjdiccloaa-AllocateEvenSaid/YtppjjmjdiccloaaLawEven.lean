/- AllocateEven: the walk of the law. -/
import Derived.Test.YtppjjmjdiccloaaEvenW
namespace Go.Proofs.Ytppjjmjdiccloaa
open Go.RowKit
attribute [local go_sem ↓] Go.wp_at_zero Go.wp_at_succ

/-- What the loop tests. -/
structure Falls (n : Nat) (l : List Int) : Prop where
  len : l.length = n
  bd : ∀ i (h : i < l.length), 0 ≤ l[i] ∧ l[i] ≤ 1000000000000000001
  ord : ∀ i k (h : i < l.length) (h2 : k < l.length), i < k → l[i] - l[k] = 0 ∨ l[i] - l[k] = 1

theorem ones_falls {total : Int} {n : Nat} {d : Nat → Int} (hn : ¬ total < 0) (he : (wholeS total (ones n)).2 = 0) (hd : OnesD total n d) : Falls n (splitL total (ones n) d) := by
  have hsg : sgn total total = total := by unfold sgn; rw [if_neg hn]
  have h1 := hd.1
  rw [hsg] at h1
  have P := split_order hn (wholeS_ok he).1 h1 hd.2
  refine ⟨by rw [splitL_length, ones_length], P.bd, fun i k hi hk h => ?_⟩
  have e := P.len
  exact P.same i k (by omega) (by omega) hi hk h (by rw [ones_getElem, ones_getElem])

set_option maxHeartbeats 1000000 in
theorem lawEven_any (total n : Int) (w : World) :
    Calls Try.prog 7 #[.int .i64 total, .int .i64 n] w fun e w' => e = .returned (.bool true) ∧ Keeps w w' := by
  by_cases hb : n < 1 ∨ 1000 < n
  · go_enter Try.func7, Try.ntmps7
    go_wp2_with (first | (go_at_call 11; refine (awake_any _).mono ?_; rintro e w1 ⟨rfl, hk1⟩; have HK1 := Lib.hid hk1; clear hk1) | (go_at_call 17; refine (even_bad total n hb _).mono ?_; rintro e w2 ⟨ao2, cap2, b2, o2, rfl, hs2, hk2⟩; have HS2 := Lib.hid hs2; have HK2 := Lib.hid (HK1.out.trans hk2); clear hs2 hk2) | (go_at_call 18; refine (reven_bad total n hb _).mono ?_; rintro e w3 ⟨ao3, cap3, b3, o3, rfl, hs3, hk3⟩; have HSS : Hid (Calls Try.prog 14 #[.slice ao2 0 cap2, .slice ao3 0 cap3] w3 (fun e w' => Gives w3 (.bool true) e w')) := (by have := same_any _ _ _ _ _ _ _ _ _ _ _ (HS2.out.keeps hk3) hs3; simpa using Lib.hid this); have HK3 := Lib.hid (HK2.out.trans hk3); clear hs3 hk3) | (go_at_call 14; refine HSS.out.mono ?_; rintro e w5 ⟨rfl, q5, rfl⟩))
    refine wp_loop_rounds 1 ?_
    rw [rounds_succ]
    go_wp2
    go_ret
    exact ⟨rfl, HK3.out.drewN _⟩
  · obtain ⟨m, rfl⟩ := Int.eq_ofNat_of_zero_le (show 0 ≤ n by omega)
    have h1 : 1 ≤ m := by omega
    have h2 : m ≤ 1000 := by omega
    clear hb
    by_cases he : (wholeS total (ones m)).2 = 0
    · have HL := Lib.hid (show ∀ d, (splitL total (ones m) d).length = m from fun d => by rw [splitL_length, ones_length])
      have HC := Lib.hid (fun W => even_ok total m h1 h2 he W)
      have HR := Lib.hid (fun d hd W => reven_ok total m d h1 h2 he hd W)
      by_cases hn : total < 0
      · clear he
        have hn2 : ¬ 0 ≤ total := by omega
        go_enter Try.func7, Try.ntmps7
        go_wp2_with (first | (go_at_call 11; refine (awake_any _).mono ?_; rintro e w1 ⟨rfl, hk1⟩; have HK1 := Lib.hid hk1; clear hk1) | (go_at_call 17; refine (HC.out _).mono ?_; rintro e w2 ⟨d, hd, ao2, cap2, b2, o2, rfl, hs2, hk2⟩; have HD := Lib.hid hd; have HS2 := Lib.hid hs2; have HK2 := Lib.hid (HK1.out.trans hk2); clear hs2 hk2 hd) | (go_at_call 18; refine (HR.out d HD.out _).mono ?_; rintro e w3 ⟨ao3, cap3, b3, o3, rfl, hs3, hk3⟩; have HS3 : Hid (Sl w3 1 ao2 (splitL total (ones m) d).length cap2 b2 o2 ((splitL total (ones m) d).map (.int .i64))) := (Lib.hid (by rw [HL.out]; exact HS2.out.keeps hk3)); have HSS : Hid (Calls Try.prog 14 #[.slice ao2 m cap2, .slice ao3 m cap3] w3 (fun e w' => Gives w3 (.bool true) e w')) := (by have hs3' : Sl w3 1 ao3 (splitL total (ones m) d).length cap3 b3 o3 ((splitL total (ones m) d).map (.int .i64)) := (by rw [HL.out]; exact hs3); have := same_any _ _ _ _ _ _ _ _ _ _ _ HS3.out hs3'; rw [HL.out] at this; simpa using Lib.hid this); have HK3 := Lib.hid (HK2.out.trans hk3); clear hs3 hk3) | (go_at_call 14; refine HSS.out.mono ?_; rintro e w5 ⟨rfl, q5, rfl⟩))
        refine wp_loop_rounds 1 ?_
        rw [rounds_succ]
        by_cases hm : 1 < m
        all_goals
          go_wp2
          go_ret
          exact ⟨rfl, HK3.out.drewN _⟩
      · have HF := Lib.hid (show ∀ d, OnesD total m d → Falls m (splitL total (ones m) d) from fun d hd => ones_falls hn he hd)
        clear he
        have hn2 : 0 ≤ total := by omega
        go_enter Try.func7, Try.ntmps7
        go_wp2_with (first | (go_at_call 11; refine (awake_any _).mono ?_; rintro e w1 ⟨rfl, hk1⟩; have HK1 := Lib.hid hk1; clear hk1) | (go_at_call 17; refine (HC.out _).mono ?_; rintro e w2 ⟨d, hd, ao2, cap2, b2, o2, rfl, hs2, hk2⟩; have HD := Lib.hid hd; have HS2 := Lib.hid hs2; have HK2 := Lib.hid (HK1.out.trans hk2); clear hs2 hk2 hd) | (go_at_call 18; refine (HR.out d HD.out _).mono ?_; rintro e w3 ⟨ao3, cap3, b3, o3, rfl, hs3, hk3⟩; have HS3 : Hid (Sl w3 1 ao2 (splitL total (ones m) d).length cap2 b2 o2 ((splitL total (ones m) d).map (.int .i64))) := (Lib.hid (by rw [HL.out]; exact HS2.out.keeps hk3)); have HSS : Hid (Calls Try.prog 14 #[.slice ao2 m cap2, .slice ao3 m cap3] w3 (fun e w' => Gives w3 (.bool true) e w')) := (by have hs3' : Sl w3 1 ao3 (splitL total (ones m) d).length cap3 b3 o3 ((splitL total (ones m) d).map (.int .i64)) := (by rw [HL.out]; exact hs3); have := same_any _ _ _ _ _ _ _ _ _ _ _ HS3.out hs3'; rw [HL.out] at this; simpa using Lib.hid this); have HK3 := Lib.hid (HK2.out.trans hk3); clear hs3 hk3) | (go_at_call 14; refine HSS.out.mono ?_; rintro e w5 ⟨rfl, q5, rfl⟩))
        have HFF := Lib.hid (HF.out d HD.out)
        obtain ⟨l, hl⟩ : ∃ l, l = splitL total (ones m) d := ⟨_, rfl⟩
        rw [← hl] at HFF HS3
        clear hl HS2 HD HC HR HF HL
        have hll := HFF.out.len
        have hl1 : m ≤ l.length := by omega
        have hl2 : l.length ≤ m := by omega
        have HLL := Lib.hid hll
        clear hll
        go_loopw [9] (fun vi wr => ∃ j q : Nat, j + 1 ≤ m ∧ vi = .int .i64 ((j : Int) + 1) ∧ wr = w3.drewN q) (fun vi _ => m - (intOf vi).toNat)
        case atStart => exact ⟨0, _, by omega, rfl, rfl⟩
        case round =>
          obtain ⟨k, q, hk1, rfl, rfl⟩ := hrel
          by_cases hlt : k + 1 < m
          · have hk2 : k < l.length := by omega
            have hk3 : k + 1 < l.length := by omega
            have hk4 : 0 < l.length := by omega
            have hcm := HS3.out.cap
            have hlm := HS3.out.le
            have hcell := HS3.out.int k hk2
            have hcell1 := HS3.out.int (k + 1) hk3
            have hcell0 := HS3.out.int 0 hk4
            have b1 := HFF.out.bd k hk2
            have b2 := HFF.out.bd (k + 1) hk3
            have b3 := HFF.out.bd 0 hk4
            have o1 := HFF.out.ord k (k + 1) hk2 hk3 (by omega)
            have o2 := HFF.out.ord 0 (k + 1) hk4 hk3 (by omega)
            have t1 : ¬ l[k] < l[k + 1] := by omega
            have t2 : ¬ l[k + 1] < l[0] - 1 := by omega
            have hix := HS3.out.at1 Try.underlying22 Try.sizeOf3 k hk2
            have hix1 := HS3.out.at1 Try.underlying22 Try.sizeOf3 (k + 1) hk3
            have hix0 := HS3.out.at1 Try.underlying22 Try.sizeOf3 0 hk4
            rw [HLL.out] at hix hix1 hix0
            rw [show (((k + 1 : Nat)) : Int) = (k : Int) + 1 from by omega] at hix1
            rw [show (((0 : Nat)) : Int) = 0 from rfl] at hix0
            have hw1 : IntKind.i64.wrap (k : Int) = (k : Int) := IntWalk.i64_in _ (by omega)
            have hw2 : IntKind.i64.wrap (l[0] - 1) = l[0] - 1 := IntWalk.i64_in _ (by omega)
            simp only [Nat.add_zero] at hix0 hcell0
            clear o1 o2
            go_wp2
            go_quiet (fail)
            go_wp2_with fail
            go_roundw
            case rel => exact ⟨k + 1, _, by omega, by go_num, rfl⟩
            case measure => simp [intOf]; omega
          · go_wp2
            go_ret
            exact ⟨rfl, HK3.out.drewN _⟩
    · have HR := Lib.hid (fun W => reven_no total m h1 h2 he W)
      have HC := Lib.hid (fun W => even_no total m h1 h2 he W)
      clear he
      go_enter Try.func7, Try.ntmps7
      go_wp2_with (first | (go_at_call 11; refine (awake_any _).mono ?_; rintro e w1 ⟨rfl, hk1⟩; have HK1 := Lib.hid hk1; clear hk1) | (go_at_call 17; refine (HC.out _).mono ?_; rintro e w2 ⟨ao2, cap2, b2, o2, rfl, hs2, hk2⟩; have HS2 := Lib.hid hs2; have HK2 := Lib.hid (HK1.out.trans hk2); clear hs2 hk2) | (go_at_call 18; refine (HR.out _).mono ?_; rintro e w3 ⟨ao3, cap3, b3, o3, rfl, hs3, hk3⟩; have HSS : Hid (Calls Try.prog 14 #[.slice ao2 0 cap2, .slice ao3 0 cap3] w3 (fun e w' => Gives w3 (.bool true) e w')) := (by have := same_any [] [] _ _ _ _ _ _ _ _ _ (HS2.out.keeps hk3) hs3; simpa using Lib.hid this); have HK3 := Lib.hid (HK2.out.trans hk3); clear hs3 hk3) | (go_at_call 14; refine HSS.out.mono ?_; rintro e w5 ⟨rfl, q5, rfl⟩))
      refine wp_loop_rounds 1 ?_
      rw [rounds_succ]
      go_wp2
      go_ret
      exact ⟨rfl, HK3.out.drewN _⟩
end Go.Proofs.Ytppjjmjdiccloaa
