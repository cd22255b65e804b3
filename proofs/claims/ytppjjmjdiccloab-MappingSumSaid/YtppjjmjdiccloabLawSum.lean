/- MappingSum: the walk of the law. -/
import Derived.Test.YtppjjmjdiccloabSumW
import Derived.Test.YtppjjmjdiccloabRG
namespace Go.Proofs.Ytppjjmjdiccloab
open Go.RowKit
set_option linter.unusedSimpArgs false
set_option linter.unusedVariables false

set_option maxRecDepth 100000 in
set_option maxHeartbeats 4000000 in
theorem lawSum_any (en : Ent) (v : Value) (c : List Acc) (l : List Bal) (aoA : Option Addr) (capA bA oA : Nat) (ao : Option Addr) (cap b o : Nat) (w : World) (HE : EntV w v en) (OK : en.Ok) (H2 : Accs w aoA c capA bA oA) (H : Bals w ao l cap b o) :
    Calls Try.prog 7 #[v, .slice aoA c.length capA, .slice ao l.length cap] w fun e w' => e = .returned (.bool true) ∧ Keeps w w' := by
  have HV := Lib.hid HE
  have HA := Lib.hid H2
  have HB := Lib.hid H
  have hcap := Sl.cap H
  have hle := Sl.le H
  have hcapA := Sl.cap H2
  have hleA := Sl.le H2
  obtain ⟨fw, hfw⟩ : ∃ fw, fewB en = fw := ⟨_, rfl⟩
  have HF : Hid (∀ W, EntV W v en → Calls Try.prog 10 #[v] W fun e w' => e = .returned (.bool fw) ∧ Keeps W w') := Lib.hid (fun W h => by have := few_any en v W h; rw [hfw] at this; exact this)
  cases fw with
  | false =>
    obtain ⟨cv, lv, rfl, ⟨aoC, capC, bC, oC, rfl, HC⟩, ⟨aoL, capL, bL, oL, rfl, HL⟩⟩ := HE
    clear HC HL OK hfw H H2
    go_enter Try.func7, Try.ntmps7
    go_wp2_with (first | (go_at_call 10; refine (HF.out _ (HV.out.keeps HK1.out)).mono ?_; rintro e w2 ⟨rfl, hk2⟩; have HK2 := Lib.hid (HK1.out.trans hk2); have B2 := Lib.hid (B1.out.keeps hk2); clear c0 c1 c2 c3 c4; obtain ⟨c0, c1, c2, c3, c4⟩ := B2.out; clear hk2) | (go_at_call 9; refine (awake_any _).mono ?_; rintro e w1 ⟨rfl, hk1⟩; have HK1 := Lib.hid (((Keeps.refl w).alloc (.cells #[.string en.name, .string en.cur, .slice aoC en.chart.length capC, .slice aoL en.links.length capL, .bool en.joint] 25)).trans hk1); have B1 : Hid (EntB w1 w.heap.size en aoC capC aoL capL) := Lib.hid (EntB.keeps ⟨by go_simp, by go_simp, by go_simp, by go_simp, by go_simp⟩ hk1); obtain ⟨c0, c1, c2, c3, c4⟩ := B1.out; clear hk1))
    go_ret
    exact ⟨rfl, HK2.out⟩
  | true =>
    obtain ⟨h1, h2⟩ := fewB_true hfw
    by_cases hcl : c.length ≤ 60
    · have hcl2 : decide ((60 : Int) < (c.length : Int)) = false := decide_eq_false (by omega)
      by_cases hll : l.length ≤ 60
      · have hll2 : decide ((60 : Int) < (l.length : Int)) = false := decide_eq_false (by omega)
        obtain ⟨mv, hmv⟩ : ∃ mv, mvalidB en c = mv := ⟨_, rfl⟩
        have HN : Hid (∀ W, EntV W v en → Accs W aoA c capA bA oA → Calls Try.prog 12 #[v, .slice aoA c.length capA] W fun e w' => e = .returned (.bool mv) ∧ Keeps W w') := Lib.hid (fun W h h' => by
          have := rmvalid_any en v c aoA capA bA oA W h h' (by omega) (by omega) (by omega)
          rw [hmv] at this; exact this)
        cases mv with
        | false =>
          obtain ⟨cv, lv, rfl, ⟨aoC, capC, bC, oC, rfl, HC⟩, ⟨aoL, capL, bL, oL, rfl, HL⟩⟩ := HE
          clear HC HL OK hfw H H2 hmv
          go_enter Try.func7, Try.ntmps7
          go_wp2_with (first | (go_at_call 12; refine (HN.out _ (HV.out.keeps HK2.out) (HA.out.keeps HK2.out)).mono ?_; rintro e w3 ⟨rfl, hk3⟩; have HK3 := Lib.hid (HK2.out.trans hk3); have B3 := Lib.hid (B2.out.keeps hk3); clear c0 c1 c2 c3 c4; obtain ⟨c0, c1, c2, c3, c4⟩ := B3.out; clear hk3) | (go_at_call 10; refine (HF.out _ (HV.out.keeps HK1.out)).mono ?_; rintro e w2 ⟨rfl, hk2⟩; have HK2 := Lib.hid (HK1.out.trans hk2); have B2 := Lib.hid (B1.out.keeps hk2); clear c0 c1 c2 c3 c4; obtain ⟨c0, c1, c2, c3, c4⟩ := B2.out; clear hk2) | (go_at_call 9; refine (awake_any _).mono ?_; rintro e w1 ⟨rfl, hk1⟩; have HK1 := Lib.hid (((Keeps.refl w).alloc (.cells #[.string en.name, .string en.cur, .slice aoC en.chart.length capC, .slice aoL en.links.length capL, .bool en.joint] 25)).trans hk1); have B1 : Hid (EntB w1 w.heap.size en aoC capC aoL capL) := Lib.hid (EntB.keeps ⟨by go_simp, by go_simp, by go_simp, by go_simp, by go_simp⟩ hk1); obtain ⟨c0, c1, c2, c3, c4⟩ := B1.out; clear hk1))
          go_ret
          exact ⟨rfl, HK3.out⟩
        | true =>
          obtain ⟨r, f, hr⟩ : ∃ r f, moveS en.chart en.links l 100 = (r, f) := ⟨_, _, rfl⟩
          have HM : Hid (∀ W, EntV W v en → Bals W ao l cap b o → Calls Try.prog 18 #[v, .slice ao l.length cap, .int .i64 100] W (OutBal W (r, f))) := Lib.hid (fun W h h' => by
            have := move_any en v l ao cap b o 100 W h h' (by omega) (by omega) (fun x hx => (OK.links x hx).2.1)
            rw [hr] at this; exact this)
          by_cases hf0 : f = 0
          · subst hf0
            have hok := move_ok (c := en.chart) (l := en.links) (bs := l) (day := 100) (by rw [hr])
            have hsum := fun kind => move_sum hmv 100 kind l (by rw [hr])
            rw [hr] at hok hsum
            have HOK := Lib.hid hok
            have HSU := Lib.hid hsum
            have hrl : r.length ≤ 100 := by
              have h1 := move_len en.chart en.links l 100
              rw [hr] at h1
              exact Nat.le_trans h1 (by omega)
            obtain ⟨cv, lv, rfl, ⟨aoC, capC, bC, oC, rfl, HC⟩, ⟨aoL, capL, bL, oL, rfl, HL⟩⟩ := HE
            have HC := Lib.hid HC
            clear HL OK hfw H H2 hmv hr hok hsum
            go_enter Try.func7, Try.ntmps7
            go_wp2_with (first | (go_at_call 18; refine (HM.out _ (HV.out.keeps HK3.out) (HB.out.keeps HK3.out)).mono ?_; rintro e w4 ⟨ao4, cap4, b4, o4, rfl, hs4, hk4⟩; have HK4 := Lib.hid (HK3.out.trans hk4); have B4 := Lib.hid (B3.out.keeps hk4); have HS4 := Lib.hid hs4; clear c0 c1 c2 c3 c4 hk4 hs4) | (go_at_call 12; refine (HN.out _ (HV.out.keeps HK2.out) (HA.out.keeps HK2.out)).mono ?_; rintro e w3 ⟨rfl, hk3⟩; have HK3 := Lib.hid (HK2.out.trans hk3); have B3 := Lib.hid (B2.out.keeps hk3); clear c0 c1 c2 c3 c4; obtain ⟨c0, c1, c2, c3, c4⟩ := B3.out; clear hk3) | (go_at_call 10; refine (HF.out _ (HV.out.keeps HK1.out)).mono ?_; rintro e w2 ⟨rfl, hk2⟩; have HK2 := Lib.hid (HK1.out.trans hk2); have B2 := Lib.hid (B1.out.keeps hk2); clear c0 c1 c2 c3 c4; obtain ⟨c0, c1, c2, c3, c4⟩ := B2.out; clear hk2) | (go_at_call 9; refine (awake_any _).mono ?_; rintro e w1 ⟨rfl, hk1⟩; have HK1 := Lib.hid (((Keeps.refl w).alloc (.cells #[.string en.name, .string en.cur, .slice aoC en.chart.length capC, .slice aoL en.links.length capL, .bool en.joint] 25)).trans hk1); have B1 : Hid (EntB w1 w.heap.size en aoC capC aoL capL) := Lib.hid (EntB.keeps ⟨by go_simp, by go_simp, by go_simp, by go_simp, by go_simp⟩ hk1); obtain ⟨c0, c1, c2, c3, c4⟩ := B1.out; clear hk1))
            go_loopw [9] (fun vi wr => ∃ k : Nat, k ≤ 6 ∧ vi = .int .i64 k ∧ Hid (Keeps w4 wr)) (fun vi _ => 6 - (intOf vi).toNat)
            case atStart => exact ⟨0, by omega, rfl, Lib.hid (Keeps.refl w4)⟩
            case round =>
              obtain ⟨k, hk, rfl, HW⟩ := hrel
              by_cases hlt : k < 6
              · have hk5 : (k : Int) ≤ 5 := by omega
                obtain ⟨s, hs⟩ : ∃ s, sumK c r (k : Int) = s := ⟨_, rfl⟩
                have HX : Hid (∀ W, Accs W aoA c capA bA oA → Bals W ao4 r cap4 b4 o4 → Calls Try.prog 21 #[.slice aoA c.length capA, .slice ao4 r.length cap4, .int .i64 (k : Int)] W fun e w' => e = .returned (.int .i64 s) ∧ Keeps W w') := Lib.hid (fun W h h' => by
                  have := sum_any c r k aoA capA bA oA ao4 cap4 b4 o4 W h h' hrl HOK.out.2
                  rw [hs] at this; exact this)
                have HY : Hid (∀ W, Accs W aoC en.chart capC bC oC → Bals W ao l cap b o → Calls Try.prog 21 #[.slice aoC en.chart.length capC, .slice ao l.length cap, .int .i64 (k : Int)] W fun e w' => e = .returned (.int .i64 s) ∧ Keeps W w') := Lib.hid (fun W h h' => by
                  have := sum_any en.chart l k aoC capC bC oC ao cap b o W h h' (by omega) HOK.out.1
                  rw [← HSU.out, hs] at this; exact this)
                have HS : Hid (∀ w', Keeps wr.drew w' → w'.cell? ⟨w.heap.size, 2, none⟩ = some (.slice aoC en.chart.length capC)) := Lib.hid (fun w' h => (HW.out.drew.trans h).cell B4.out.c2)
                clear hs
                go_wp2_with fail
                refine wp_region_steps (A := ?_) Keeps [some 46, some 47, some 48, some 49, some 50, some 51, some 52, some 53, some 54, some 55] [[], [], [], [0, 1, 2], [], [4], [], [], [5, 6, 7], [3, 8]] 10 (by kernel_rfl) (by kernel_rfl) (by kernel_rfl) (by kernel_rfl) (by kernel_rfl) (by kernel_rfl) Keeps.refl (fun _ _ _ => Keeps.trans) ?_ ?_
                rotate_left
                · intro f; simp only [putL, Act.put, List.setIfInBounds_toArray, List.set_cons_zero, List.set_cons_succ, Nat.zero_add, Nat.reduceAdd]; exact rfl
                refine Steps.pure (v := ?_) Keeps.refl rfl (fun f w' hR hV => ⟨?_, ?_⟩) ?_
                rotate_left
                · (rfl)
                · (clear hV; have c2 := HS.out _ hR; go_simp; all_goals (try with_reducible rfl))
                refine Steps.pure (v := ?_) Keeps.refl rfl (fun f w' hR hV => ⟨?_, ?_⟩) ?_
                rotate_left
                · (rfl)
                · (clear hV; have c2 := HS.out _ hR; go_simp; all_goals (try with_reducible rfl))
                refine Steps.pure (v := ?_) Keeps.refl rfl (fun f w' hR hV => ⟨?_, ?_⟩) ?_
                rotate_left
                · (rfl)
                · (clear hV; have c2 := HS.out _ hR; go_simp; all_goals (try with_reducible rfl))
                refine Steps.call (fun _ v => v = .int .i64 s) rfl (fun _ _ _ _ h => h) (fun f w' hR hV => ⟨?_, ?_⟩) ?_
                · (rfl)
                · (obtain ⟨h0, h1, h2, _⟩ := hV; replace h0 : f 0 = _ := h0; replace h1 : f 1 = _ := h1; replace h2 : f 2 = _ := h2; have c2 := HS.out _ hR; go_simp; go_at_call 21; refine (HX.out _ (HA.out.keeps (HK4.out.trans (HW.out.drew.trans hR))) (HS4.out.keeps (HW.out.drew.trans hR))).mono ?_; rintro e w2 ⟨rfl, hk2⟩; exact StepPost.of _ rfl rfl hk2)
                refine Steps.pure (v := ?_) Keeps.refl rfl (fun f w' hR hV => ⟨?_, ?_⟩) ?_
                rotate_left
                · (rfl)
                · (clear hV; have c2 := HS.out _ hR; go_simp; all_goals (try with_reducible rfl))
                refine Steps.pure (v := ?_) Keeps.refl rfl (fun f w' hR hV => ⟨?_, ?_⟩) ?_
                rotate_left
                · (rfl)
                · (obtain ⟨h4, _⟩ := hV; replace h4 : f 4 = _ := h4; have c2 := HS.out _ hR; go_simp; all_goals (try with_reducible rfl))
                refine Steps.pure (v := ?_) Keeps.refl rfl (fun f w' hR hV => ⟨?_, ?_⟩) ?_
                rotate_left
                · (rfl)
                · (clear hV; have c2 := HS.out _ hR; go_simp; all_goals (try with_reducible rfl))
                refine Steps.pure (v := ?_) Keeps.refl rfl (fun f w' hR hV => ⟨?_, ?_⟩) ?_
                rotate_left
                · (rfl)
                · (clear hV; have c2 := HS.out _ hR; go_simp; all_goals (try with_reducible rfl))
                refine Steps.call (fun _ v => v = .int .i64 s) rfl (fun _ _ _ _ h => h) (fun f w' hR hV => ⟨?_, ?_⟩) ?_
                · (rfl)
                · (obtain ⟨h5, h6, h7, _⟩ := hV; replace h5 : f 5 = _ := h5; replace h6 : f 6 = _ := h6; replace h7 : f 7 = _ := h7; have c2 := HS.out _ hR; go_simp; go_at_call 21; refine (HY.out _ (HC.out.keeps (HK4.out.trans (HW.out.drew.trans hR))) (HB.out.keeps (HK4.out.trans (HW.out.drew.trans hR)))).mono ?_; rintro e w2 ⟨rfl, hk2⟩; exact StepPost.of _ rfl rfl hk2)
                refine Steps.pure (v := ?_) Keeps.refl rfl (fun f w' hR hV => ⟨?_, ?_⟩) ?_
                rotate_left
                · (rfl)
                · (obtain ⟨h3, h8, _⟩ := hV; replace h3 : f 3 = _ := h3; replace h8 : f 8 = _ := h8; have c2 := HS.out _ hR; go_simp; all_goals (try with_reducible rfl))
                all_goals (refine Steps.done [9] (by kernel_rfl) rfl (fun f wq hR hV => ?_); obtain ⟨h9, _⟩ := hV; replace h9 : f 9 = _ := h9; simp only [h9])
                have HR := Lib.hid (HW.out.drew.trans hR)
                clear hR
                go_wp2_with fail
                go_roundw
                case rel => exact ⟨k + 1, by omega, by go_num, HR⟩
                case measure => simp [intOf]; omega
              · obtain rfl : k = 6 := by omega
                go_wp2_with fail
                go_ret
                exact ⟨rfl, HK4.out.trans HW.out⟩
          · have he := move_err (c := en.chart) (l := en.links) (bs := l) (day := 100) (by rw [hr]; exact hf0)
            rw [hr] at he
            simp only at he
            subst he
            have hf1 : (f != 0) = true := by simpa using hf0
            obtain ⟨cv, lv, rfl, ⟨aoC, capC, bC, oC, rfl, HC⟩, ⟨aoL, capL, bL, oL, rfl, HL⟩⟩ := HE
            clear HC HL OK hfw H H2 hmv hr hf0
            go_enter Try.func7, Try.ntmps7
            go_wp2_with (first | (go_at_call 18; refine (HM.out _ (HV.out.keeps HK3.out) (HB.out.keeps HK3.out)).mono ?_; rintro e w4 ⟨ao4, cap4, b4, o4, rfl, hs4, hk4⟩; have HK4 := Lib.hid (HK3.out.trans hk4); have B4 := Lib.hid (B3.out.keeps hk4); have HS4 := Lib.hid hs4; clear c0 c1 c2 c3 c4 hk4 hs4) | (go_at_call 12; refine (HN.out _ (HV.out.keeps HK2.out) (HA.out.keeps HK2.out)).mono ?_; rintro e w3 ⟨rfl, hk3⟩; have HK3 := Lib.hid (HK2.out.trans hk3); have B3 := Lib.hid (B2.out.keeps hk3); clear c0 c1 c2 c3 c4; obtain ⟨c0, c1, c2, c3, c4⟩ := B3.out; clear hk3) | (go_at_call 10; refine (HF.out _ (HV.out.keeps HK1.out)).mono ?_; rintro e w2 ⟨rfl, hk2⟩; have HK2 := Lib.hid (HK1.out.trans hk2); have B2 := Lib.hid (B1.out.keeps hk2); clear c0 c1 c2 c3 c4; obtain ⟨c0, c1, c2, c3, c4⟩ := B2.out; clear hk2) | (go_at_call 9; refine (awake_any _).mono ?_; rintro e w1 ⟨rfl, hk1⟩; have HK1 := Lib.hid (((Keeps.refl w).alloc (.cells #[.string en.name, .string en.cur, .slice aoC en.chart.length capC, .slice aoL en.links.length capL, .bool en.joint] 25)).trans hk1); have B1 : Hid (EntB w1 w.heap.size en aoC capC aoL capL) := Lib.hid (EntB.keeps ⟨by go_simp, by go_simp, by go_simp, by go_simp, by go_simp⟩ hk1); obtain ⟨c0, c1, c2, c3, c4⟩ := B1.out; clear hk1))
            go_ret
            exact ⟨rfl, HK4.out⟩
      · have hll2 : decide ((60 : Int) < (l.length : Int)) = true := decide_eq_true (by omega)
        obtain ⟨cv, lv, rfl, ⟨aoC, capC, bC, oC, rfl, HC⟩, ⟨aoL, capL, bL, oL, rfl, HL⟩⟩ := HE
        clear HC HL OK hfw H H2
        go_enter Try.func7, Try.ntmps7
        go_wp2_with (first | (go_at_call 10; refine (HF.out _ (HV.out.keeps HK1.out)).mono ?_; rintro e w2 ⟨rfl, hk2⟩; have HK2 := Lib.hid (HK1.out.trans hk2); have B2 := Lib.hid (B1.out.keeps hk2); clear c0 c1 c2 c3 c4; obtain ⟨c0, c1, c2, c3, c4⟩ := B2.out; clear hk2) | (go_at_call 9; refine (awake_any _).mono ?_; rintro e w1 ⟨rfl, hk1⟩; have HK1 := Lib.hid (((Keeps.refl w).alloc (.cells #[.string en.name, .string en.cur, .slice aoC en.chart.length capC, .slice aoL en.links.length capL, .bool en.joint] 25)).trans hk1); have B1 : Hid (EntB w1 w.heap.size en aoC capC aoL capL) := Lib.hid (EntB.keeps ⟨by go_simp, by go_simp, by go_simp, by go_simp, by go_simp⟩ hk1); obtain ⟨c0, c1, c2, c3, c4⟩ := B1.out; clear hk1))
        go_ret
        exact ⟨rfl, HK2.out⟩
    · have hcl2 : decide ((60 : Int) < (c.length : Int)) = true := decide_eq_true (by omega)
      obtain ⟨cv, lv, rfl, ⟨aoC, capC, bC, oC, rfl, HC⟩, ⟨aoL, capL, bL, oL, rfl, HL⟩⟩ := HE
      clear HC HL OK hfw H H2
      go_enter Try.func7, Try.ntmps7
      go_wp2_with (first | (go_at_call 10; refine (HF.out _ (HV.out.keeps HK1.out)).mono ?_; rintro e w2 ⟨rfl, hk2⟩; have HK2 := Lib.hid (HK1.out.trans hk2); have B2 := Lib.hid (B1.out.keeps hk2); clear c0 c1 c2 c3 c4; obtain ⟨c0, c1, c2, c3, c4⟩ := B2.out; clear hk2) | (go_at_call 9; refine (awake_any _).mono ?_; rintro e w1 ⟨rfl, hk1⟩; have HK1 := Lib.hid (((Keeps.refl w).alloc (.cells #[.string en.name, .string en.cur, .slice aoC en.chart.length capC, .slice aoL en.links.length capL, .bool en.joint] 25)).trans hk1); have B1 : Hid (EntB w1 w.heap.size en aoC capC aoL capL) := Lib.hid (EntB.keeps ⟨by go_simp, by go_simp, by go_simp, by go_simp, by go_simp⟩ hk1); obtain ⟨c0, c1, c2, c3, c4⟩ := B1.out; clear hk1))
      go_ret
      exact ⟨rfl, HK2.out⟩
end Go.Proofs.Ytppjjmjdiccloab
