/- AllocateScaled: the walk of the law. -/
import Derived.Test.YtppjjmjdiccloaaLawSplit
import Derived.Test.YtppjjmjdiccloaaScaledP
import Derived.Deep.RegionHeld3
import Derived.IntWalk
namespace Go.Proofs.Ytppjjmjdiccloaa
open Go.RowKit
attribute [local go_sem ↓] Go.wp_at_zero Go.wp_at_succ

/-- What the rounds keep: what has been appended. -/
def ScRel (w : World) (ws : List Int) (c : Int) (vo vm vi : Value) (wr : World) : Prop :=
  ∃ k : Nat, k ≤ ws.length ∧ vi = .int .i64 k ∧ Hid (Keeps w wr ∧ wr.ownsRow w.heap.size 3 1 vo k ((ws.take k).map (.int .i64)) ∧ wr.ownsRow w.heap.size 3 1 vm k ((scl (ws.take k) c).map (.int .i64)) ∧ Sep vo vm)

theorem scl_err {total c : Int} {ws : List Int} (hw : ∀ x ∈ ws, 0 ≤ x ∧ x ≤ 255) (hc : 1 ≤ c) (hc2 : c ≤ 255) : (wholeS total (scl ws c)).2 = (wholeS total ws).2 := by
  have h1 : ws.all wgood = true := List.all_eq_true.2 fun x hx => by have := hw x hx; unfold wgood; simp; omega
  have h2 : (scl ws c).all wgood = true := List.all_eq_true.2 fun x hx => by
    obtain ⟨y, hy, rfl⟩ := List.mem_map.1 hx
    have hb := hw y hy
    have a1 : 0 ≤ y * c := Int.mul_nonneg hb.1 (by omega)
    have a2 : y * c ≤ 255 * 255 := Int.mul_le_mul hb.2 hc2 (by omega) (by omega)
    unfold wgood; simp; omega
  unfold wholeS
  rw [scl_length, h1, h2, scl_sum]
  have h3 : lsum ws * c = 0 ↔ lsum ws = 0 := by
    rw [Int.mul_eq_zero]; omega
  by_cases h4 : lsum ws = 0
  · rw [if_pos h4, if_pos (h3.2 h4)]
  · rw [if_neg h4, if_neg (fun h => h4 (h3.1 h))]
    split <;> rfl
theorem neg_err {total : Int} {ws : List Int} (ht : -2147483648 ≤ total ∧ total ≤ 2147483647) : (wholeS (-total) ws).2 = (wholeS total ws).2 := by
  unfold wholeS
  have e1 : amt total = true := amt_true.2 (by omega)
  have e2 : amt (-total) = true := amt_true.2 (by omega)
  rw [e1, e2]
def OnD (total : Int) (ws : List Int) (d : Nat → Int) : Prop := Srt (rst (sgn total total) (lsum ws) ws) d 0 ws.length ∧ Same 0 ws.length (fun k => (k : Int)) d
theorem sc_a (total : Int) (ws : List Int) (v : Value) (w : World) (h : IntL w v ws) (he : (wholeS total ws).2 = 0) :
    Calls Try.prog 12 #[.int .i64 total, v] w fun e w' => ∃ d, OnD total ws d ∧ OutN w ws.length (splitL total ws d) 0 e w' := split_ok total ws v w h he
theorem sc_b (total : Int) (ws : List Int) (c : Int) (d : Nat → Int) (v : Value) (w : World) (hc : 1 ≤ c) (hw : ∀ x ∈ ws, 0 ≤ x ∧ x ≤ 255) (hc2 : 0 ≤ c ∧ c ≤ 255) (_ht : -2147483648 ≤ total ∧ total ≤ 2147483647) (he : (wholeS total ws).2 = 0) (hd : OnD total ws d) (h : IntL w v (scl ws c)) :
    Calls Try.prog 12 #[.int .i64 total, v] w fun e w' => OutN w ws.length (splitL total ws d) 0 e w' := by
  refine (split_ok total (scl ws c) v w h (by rw [scl_err hw hc hc2.2]; exact he)).mono fun e w' h' => ?_
  obtain ⟨d', hd', ho⟩ := h'
  rw [scl_length] at ho hd'
  rw [scl_split (by omega) (wholeS_ok he).1 hd.1 hd.2 hd'.1 hd'.2] at ho
  exact ho
theorem sc_c (total : Int) (ws : List Int) (d : Nat → Int) (v : Value) (w : World) (ht : -2147483648 ≤ total ∧ total ≤ 2147483647) (he : (wholeS total ws).2 = 0) (hd : OnD total ws d) (h : IntL w v ws) :
    Calls Try.prog 12 #[.int .i64 (-total), v] w fun e w' => OutN w ws.length ((splitL total ws d).map (fun x => -x)) 0 e w' := by
  refine (split_ok (-total) ws v w h (by rw [neg_err ht]; exact he)).mono fun e w' h' => ?_
  obtain ⟨d', hd', ho⟩ := h'
  rw [neg_split (wholeS_ok he).1 hd.1 hd.2 hd'.1 hd'.2] at ho
  exact ho
theorem split_bd {total : Int} {ws : List Int} (hW : WOk total ws) (d : Nat → Int) (x : Int) (hx : x ∈ splitL total ws d) : -1000000000000000001 ≤ x ∧ x ≤ 1000000000000000001 := by
  unfold splitL at hx
  obtain ⟨v, _, rfl⟩ := List.mem_map.1 hx
  have ht := amt_true.1 hW.ht
  have hb := part_bd (abs := sgn total total) (by unfold sgn; split <;> omega) (by unfold sgn; split <;> omega) hW.hs hW.w d (lef (sgn total total) (lsum ws) ws ws.length).toNat v
  generalize part (sgn total total) (lsum ws) ws d (lef (sgn total total) (lsum ws) ws ws.length).toNat v = y at *
  unfold sgn
  split <;> omega

set_option maxHeartbeats 1000000 in
theorem lawScaled_any (total c : Int) (ws : List Int) (ao : Option Addr) (cap b o : Nat) (w : World) (H : Sl w 1 ao ws.length cap b o (ws.map (.int .u8))) (ht : -2147483648 ≤ total ∧ total ≤ 2147483647) (hw : ∀ x ∈ ws, 0 ≤ x ∧ x ≤ 255) (hc : 0 ≤ c ∧ c ≤ 255) :
    Calls Try.prog 5 #[.int .i32 total, .slice ao ws.length cap, .int .u8 c] w fun e w' => e = .returned (.bool true) ∧ Keeps w w' := by
  have hcap := H.cap
  have hle := H.le
  by_cases hlen : ws.length ≤ 100
  · by_cases h0 : c = 0
    · have hz : (c == 0) = true := by simp [h0]
      clear h0
      go_enter Try.func5, Try.ntmps5
      go_wp2_with (go_at_call 11; refine (awake_any _).mono ?_; rintro e w1 ⟨rfl, hk1⟩)
      go_ret
      exact ⟨rfl, hk1⟩
    · have hz : (c == 0) = false := by simp [h0]
      have hc1 : 1 ≤ c := by omega
      have HB := Lib.hid hw
      clear h0 hw
      go_enter Try.func5, Try.ntmps5
      go_wp2_with (go_at_call 11; refine (awake_any _).mono ?_; rintro e w1 ⟨rfl, hk1⟩)
      have H1 := Lib.hid (H.keeps hk1)
      have K1 := Lib.hid hk1
      clear H hk1
      go_loopw [7, 8, 9] (fun vo vm vi wr => ScRel w1 ws c vo vm vi wr) (fun _ _ vi _ => ws.length - (intOf vi).toNat)
      case atStart => exact ⟨0, Nat.zero_le _, rfl, Lib.hid ⟨Keeps.refl _, World.ownsRow_nil _ _ _ _, World.ownsRow_nil _ _ _ _, Sep.nil _⟩⟩
      case round =>
        obtain ⟨k, hk, rfl, HR⟩ := hrel
        by_cases hlt : k < ws.length
        · have hcell := (H1.out.keeps HR.out.1).int k hlt
          have hcell1 := H1.out.int k hlt
          have hix := H1.out.at1 Try.underlying29 Try.sizeOf5 k hlt
          have hwb := HB.out _ (List.getElem_mem hlt)
          have hmb : 0 ≤ ws[k] * c ∧ ws[k] * c ≤ 65025 := ⟨Int.mul_nonneg hwb.1 (by omega), by
            have := Int.mul_le_mul hwb.2 hc.2 (by omega) (by omega)
            omega⟩
          have hwr1 : IntKind.i64.wrap (ws[k] * c) = ws[k] * c := IntWalk.i64_in _ (by omega)
          have hwr2 : IntKind.i64.wrap ws[k] = ws[k] := IntWalk.i64_in _ (by omega)
          have hwr3 : IntKind.i64.wrap c = c := IntWalk.i64_in _ (by omega)
          have hsz := HR.out.1.size
          have HT1 : Hid ((ws.take (k + 1)).map (Value.int .i64) = (ws.take k).map (.int .i64) ++ [.int .i64 ws[k]]) := Lib.hid (by rw [take_snoc ws k hlt, List.map_append]; rfl)
          have HT2 : Hid ((scl (ws.take (k + 1)) c).map (Value.int .i64) = (scl (ws.take k) c).map (.int .i64) ++ [.int .i64 (ws[k] * c)]) := Lib.hid (by rw [take_snoc ws k hlt]; unfold scl; rw [List.map_append, List.map_append]; rfl)
          go_wp2_with fail
          go_region_held3 (fun w' => w'.cell? ⟨b, o + k, none⟩ = some (.int .u8 ws[k]))
            (first | go_keep | (exact Keeps.cell hk2 hcell1) | (exact Keeps.cell hk3 hcell1))
            (first | (refine step_one elemInt (by rfl) (.tmp 32) (.tmp 38) (by rfl) u7 k _ (by rfl) w1.heap.size (by first | exact HR.out.2.1.alloc _ | exact (HR.out.2.1.alloc _).alloc _) (by simp; omega) _ _ (.int .i64 ws[k]) (by rfl) (by go_simp) (by rfl) (by omega) (by omega) ?_; intro v2 w2 hown2 hgrow2 hat2; have hk2 : Keeps w1 w2 := (by first | exact Below.grown (Below.drew (Keeps.alloc HR.out.1 _)) hgrow2 (by simp; omega) (fun j hj => (HR.out.2.1.lt j hj).1) | exact Below.grown (Below.drew (Keeps.alloc (Keeps.alloc HR.out.1 _) _)) hgrow2 (by simp; omega) (fun j hj => (HR.out.2.1.lt j hj).1)); have hm2 : w2.ownsRow w1.heap.size 3 1 u8 k ((scl (ws.take k) c).map (.int .i64)) := (by first | exact (HR.out.2.2.1.alloc _).drew.kept hgrow2 HR.out.2.2.2.symm.keep | exact ((HR.out.2.2.1.alloc _).alloc _).drew.kept hgrow2 HR.out.2.2.2.symm.keep); have hs2 : Sep u8 v2 := Sep.moved HR.out.2.2.2.symm HR.out.2.2.1 (by first | (simp; done) | (simp; omega)) hat2; have hz2 := hk2.size) | (refine step_one elemInt (by rfl) (.tmp 40) (.tmp 49) (by rfl) u8 k _ (by rfl) w1.heap.size (by first | exact hm2 | exact hm2.alloc _) (by first | omega | (simp; omega)) _ _ (.int .i64 (ws[k] * c)) (by rfl) (by first | (exact hgrow2.cell (by go_simp) (fun e => by have := (HR.out.2.1.lt _ e.symm).2; simp at this; try omega)) | go_simp) (by rfl) (by omega) (by omega) ?_; intro v3 w3 hown3 hgrow3 hat3; have h23 : w3.ownsRow w1.heap.size 3 1 v2 (k + 1) ((ws.take k).map (.int .i64) ++ [.int .i64 ws[k]]) := (by first | exact hown2.kept hgrow3 hs2.symm.keep | exact (hown2.alloc _).kept hgrow3 hs2.symm.keep); have hs3 : Sep v2 v3 := (by first | exact Sep.moved hs2.symm hown2 (Nat.le_refl _) hat3 | exact Sep.moved hs2.symm (hown2.alloc _) (Nat.le_refl _) hat3); have hk3 : Keeps w1 w3 := (by first | exact Below.grown hk2 hgrow3 hk2.size (fun j hj => (HR.out.2.2.1.lt j hj).1) | exact Below.grown (Keeps.alloc hk2 _) hgrow3 (by simp; omega) (fun j hj => (HR.out.2.2.1.lt j hj).1))))
          all_goals
            have HX : Hid (Keeps w1 w3 ∧ w3.ownsRow w1.heap.size 3 1 v2 (k + 1) ((ws.take (k + 1)).map (.int .i64)) ∧ w3.ownsRow w1.heap.size 3 1 v3 (k + 1) ((scl (ws.take (k + 1)) c).map (.int .i64)) ∧ Sep v2 v3) := Lib.hid ⟨hk3, by rw [HT1.out]; exact h23, by rw [HT2.out]; exact hown3, hs3⟩
            clear hown2 hgrow2 hat2 hk2 hm2 hs2 hz2 hown3 hgrow3 hat3 h23 hs3 hk3 hwr1 hwr2 hwr3
            go_wp2_with fail
            go_roundw
            case rel => exact ⟨k + 1, by omega, by go_num, HX⟩
            case measure => simp [intOf]; omega
        · obtain rfl : k = ws.length := by omega
          have HA : Hid (IntL wr u7 ws) := Lib.hid (IntL.own (by have := HR.out.2.1; rw [List.take_length] at this; exact this))
          have HM : Hid (IntL wr u8 (scl ws c)) := Lib.hid (IntL.own (by have := HR.out.2.2.1; rw [List.take_length] at this; rw [scl_length]; exact this))
          have HK := Lib.hid (K1.out.trans HR.out.1)
          clear HR K1 H1
          by_cases he : (wholeS total ws).2 = 0
          · have S1 := Lib.hid (fun v W h => sc_a total ws v W h he)
            have S2 := Lib.hid (fun d hd v W h => sc_b total ws c d v W (by omega) HB.out hc ht he hd h)
            have S3 := Lib.hid (fun d hd v W h => sc_c total ws d v W ht he hd h)
            have S4 := Lib.hid (fun d x hx => split_bd (wholeS_ok he).1 d x hx)
            have S5 := Lib.hid (splitL_length total ws)
            clear he
            go_wp2_with (first | (go_at_call 12; (with_reducible refine (S1.out _ _ HA.out).mono ?_); rintro e w2 ⟨d, hd, ao2, cap2, b2, o2, rfl, hs2, hk2⟩; have HD := Lib.hid hd; have HS2 := Lib.hid hs2; have HA2 := Lib.hid (HA.out.keeps hk2); have HM2 := Lib.hid (HM.out.keeps hk2); have HK2 := Lib.hid (HK.out.trans hk2); clear HA HM HK S1 hs2 hk2 hd) | (go_at_call 12; (with_reducible refine (S2.out d HD.out _ _ HM2.out).mono ?_); rintro e w3 ⟨ao3, cap3, b3, o3, rfl, hs3, hk3⟩; have HS3 := Lib.hid (HS2.out.keeps hk3); have HB3 := Lib.hid hs3; have HA3 := Lib.hid (HA2.out.keeps hk3); have HK3 := Lib.hid (HK2.out.trans hk3); clear HS2 HA2 HM2 HK2 S2 hs3 hk3) | (go_at_call 12; (with_reducible refine (S3.out d HD.out _ _ HA3.out).mono ?_); rintro e w4 ⟨ao4, cap4, b4, o4, rfl, hs4, hk4⟩; have HS4 := Lib.hid (HS3.out.keeps hk4); have HB4 := Lib.hid (HB3.out.keeps hk4); have HC4 := Lib.hid hs4; have HK4 := Lib.hid (HK3.out.trans hk4); clear HS3 HA3 HB3 HK3 S3 hs4 hk4) | (go_at_call 14; have hss : Calls Try.prog 14 #[.slice ao2 ws.length cap2, .slice ao3 ws.length cap3] w4 (fun e w' => Gives w4 (.bool true) e w') := (by have h1 := HS4.out; have h2 := HB4.out; rw [← S5.out d] at h1 h2; have := same_any _ _ _ _ _ _ _ _ _ _ _ h1 h2; rw [S5.out d] at this; simpa using this); refine hss.mono ?_; rintro e w5 ⟨rfl, q5, rfl⟩; clear hss))
            obtain ⟨l, hl⟩ : ∃ l, l = splitL total ws d := ⟨_, rfl⟩
            have hlen := S5.out d
            have hbd := S4.out d
            rw [← hl] at HS4 HC4 hbd hlen
            have HBD := Lib.hid hbd
            have HL := Lib.hid hlen
            have hl1 : ws.length ≤ l.length := by omega
            clear hl S4 S5 HD HB4 hlen hbd
            go_loopw [16] (fun vi wr => ∃ k q : Nat, k ≤ ws.length ∧ vi = .int .i64 k ∧ wr = w4.drewN q) (fun vi _ => ws.length - (intOf vi).toNat)
            case atStart => exact ⟨0, _, by omega, rfl, rfl⟩
            case round =>
              obtain ⟨k, q, hk, rfl, rfl⟩ := hrel
              by_cases hlt : k < ws.length
              · have hk1 : k < l.length := by omega
                have HS4' : Sl w4 1 ao2 l.length cap2 b2 o2 (l.map (.int .i64)) := by rw [HL.out]; exact HS4.out
                have hcell := HS4'.int k hk1
                have hix := HS4.out.at1 Try.underlying22 Try.sizeOf3 k hlt
                have hcell2 : w4.cell? ⟨b4, o4 + k, none⟩ = some (.int .i64 (-l[k])) := HC4.out.cell k _ (by simp [hk1])
                have hix2 := HC4.out.at1 Try.underlying22 Try.sizeOf3 k hlt
                have hb := HBD.out _ (List.getElem_mem hk1)
                have hw1 : IntKind.i64.wrap l[k] = l[k] := IntWalk.i64_in _ (by omega)
                have hcm := HS4.out.cap
                have hcm2 := HS4.out.le
                have hcm3 := HC4.out.cap
                have hcm4 := HC4.out.le
                clear HS4'
                go_wp2
                go_quiet (fail)
                go_wp2_with fail
                go_roundw
                case rel => exact ⟨k + 1, _, by omega, by go_num, rfl⟩
                case measure => simp [intOf]; omega
              · go_wp2
                go_ret
                exact ⟨rfl, HK4.out.drewN _⟩
          · obtain ⟨er, her⟩ : ∃ er, er = (wholeS total ws).2 := ⟨_, rfl⟩
            have S1 := Lib.hid (fun v W h => her ▸ split_no total ws v W h he)
            have S2 : Hid (∀ v W, IntL W v (scl ws c) → Calls Try.prog 12 #[.int .i64 total, v] W fun e w' => OutL W [] er e w') := Lib.hid (fun v W h => by
              have h1 := scl_err (total := total) (c := c) HB.out hc1 hc.2
              have := split_no total (scl ws c) v W h (by rw [h1]; exact he)
              rw [h1, ← her] at this; exact this)
            have S3 : Hid (∀ v W, IntL W v ws → Calls Try.prog 12 #[.int .i64 (-total), v] W fun e w' => OutL W [] er e w') := Lib.hid (fun v W h => by
              have h1 := neg_err (ws := ws) ht
              have := split_no (-total) ws v W h (by rw [h1]; exact he)
              rw [h1, ← her] at this; exact this)
            clear he her
            go_wp2_with (first | (go_at_call 12; (with_reducible refine (S1.out _ _ HA.out).mono ?_); rintro e w2 ⟨ao2, cap2, b2, o2, rfl, hs2, hk2⟩; have HS2 := Lib.hid hs2; have HA2 := Lib.hid (HA.out.keeps hk2); have HM2 := Lib.hid (HM.out.keeps hk2); have HK2 := Lib.hid (HK.out.trans hk2); clear HA HM HK S1 hs2 hk2) | (go_at_call 12; (with_reducible refine (S2.out _ _ HM2.out).mono ?_); rintro e w3 ⟨ao3, cap3, b3, o3, rfl, hs3, hk3⟩; have HS3 := Lib.hid (HS2.out.keeps hk3); have HB3 := Lib.hid hs3; have HA3 := Lib.hid (HA2.out.keeps hk3); have HK3 := Lib.hid (HK2.out.trans hk3); clear HS2 HA2 HM2 HK2 S2 hs3 hk3) | (go_at_call 12; (with_reducible refine (S3.out _ _ HA3.out).mono ?_); rintro e w4 ⟨ao4, cap4, b4, o4, rfl, hs4, hk4⟩; have HS4 := Lib.hid (HS3.out.keeps hk4); have HB4 := Lib.hid (HB3.out.keeps hk4); have HK4 := Lib.hid (HK3.out.trans hk4); clear HS3 HA3 HB3 HK3 S3 hs4 hk4) | (go_at_call 14; have hss : Calls Try.prog 14 #[.slice ao2 0 cap2, .slice ao3 0 cap3] w4 (fun e w' => Gives w4 (.bool true) e w') := (by have := same_any [] [] _ _ _ _ _ _ _ _ _ HS4.out HB4.out; simpa using this); refine hss.mono ?_; rintro e w5 ⟨rfl, q5, rfl⟩; clear hss))
            refine wp_loop_rounds 1 ?_
            rw [rounds_succ]
            go_wp2
            go_ret
            exact ⟨rfl, HK4.out.drewN _⟩
  · go_enter Try.func5, Try.ntmps5
    go_wp2_with (go_at_call 11; refine (awake_any _).mono ?_; rintro e w1 ⟨rfl, hk1⟩)
    go_ret
    exact ⟨rfl, hk1⟩
end Go.Proofs.Ytppjjmjdiccloaa
